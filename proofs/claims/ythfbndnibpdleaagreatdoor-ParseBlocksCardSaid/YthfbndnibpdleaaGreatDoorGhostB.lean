/-
  The ghost machine: an interpreter over abstract values, and the proof that what it finds the program does. No claim is proved here; no conditions.
-/
import Derived.Test.YthfbndnibpdleaaGreatDoorGhostA
import Derived.Lib.ConvBytes
import Derived.Laws.BytesArg
import Derived.Laws.StructEq
import Derived.Laws.MakeOwn

/-
  THE GHOST MACHINE, ELEVENTH TEXT: parts of values, places in memory.
  No claim is proved here.
-/
namespace Go.Gh

/-- An array of cells and its ghost. -/
structure ALike (Γ : Gam) (c : Array Value) (gs : List GVal) : Prop where
  size : c.size = gs.length
  one : ∀ v ∈ gs, v.one = true
  at_ : ∀ j (hj : j < gs.length), VRel Γ (c.getD j undef) gs[j]

theorem ALike.mono {Γ Γ' : Gam} (hle : Γ.le Γ') {c : Array Value} {gs : List GVal} (h : ALike Γ c gs) : ALike Γ' c gs := ⟨h.size, h.one, fun j hj => (h.at_ j hj).mono hle⟩

theorem getD_eq (c : Array Value) (j : Nat) : c.getD j undef = (c[j]?).getD undef := by simp [Array.getD_eq_getD_getElem?]

theorem ALike.get {Γ : Gam} {c : Array Value} {gs : List GVal} (h : ALike Γ c gs) {j : Nat} {v : GVal} (hv : gs[j]? = some v) : ∃ x, c[j]? = some x ∧ VRel Γ x v ∧ v.one = true := by
  have hj : j < gs.length := by
    rcases Nat.lt_or_ge j gs.length with h' | h'
    · exact h'
    · simp [List.getElem?_eq_none h'] at hv
  have hc : j < c.size := by rw [h.size]; exact hj
  have := h.at_ j hj
  rw [List.getElem?_eq_getElem hj] at hv
  cases hv
  exact ⟨c[j], by simp [hc], by simpa [hc] using this, h.one _ (List.getElem_mem hj)⟩

theorem cells_alike {Γ : Gam} {x : Value} {v : GVal} (h : VRel Γ x v) (hn : notTup v = true) : ALike Γ x.cells v.cells := by
  have hc := cells_rel h
  exact ⟨hc.1, cells_one h (fun l e => by subst e; simp [notTup] at hn), hc.2⟩

/-- The value of one cell, or of all of a row of them. -/
theorem alike_agg {Γ : Gam} {c : Array Value} {gs : List GVal} (h : ALike Γ c gs) : VRel Γ (.agg c) (.agg gs) := .agg c gs h.size h.one h.at_

theorem alike_sub {Γ : Gam} {c : Array Value} {gs : List GVal} (h : ALike Γ c gs) (o n : Nat) (hl : o + n ≤ gs.length) : ALike Γ (c.extract o (o + n)) ((gs.drop o).take n) := by
  refine ⟨?_, fun v hv => h.one v (List.mem_of_mem_drop (List.mem_of_mem_take hv)), fun j hj => ?_⟩
  · simp [h.size]; omega
  · simp only [List.length_take, List.length_drop] at hj
    have := h.at_ (o + j) (by omega)
    rw [getD_eq] at this ⊢
    rw [Array.getElem?_extract]
    simp only [List.getElem_take, List.getElem_drop]
    rw [if_pos (by rw [h.size]; omega)]
    exact this

section
variable {P : Program} (w : World)

theorem gPart_sound {Γ : Gam} {c : Array Value} {gs : List GVal} (h : ALike Γ c gs) (t : TypeId) (n o : Nat) (g : Bool) (hs : sizeT P t = some n) (hg : aggT P t = some g) (v : GVal) (hv : gPart g gs o n = some v) :
    ∃ z, (part t c o).run P w = .ok z w ∧ VRel Γ z v := by
  unfold gPart at hv
  cases g with
  | true =>
    simp only [cond_true, ble_bool] at hv
    by_cases hl : o + n ≤ gs.length
    · have : Nat.add o n ≤ gs.length := hl
      simp only [this, decide_true, cond_true, Option.some.injEq] at hv
      subst hv
      refine ⟨.agg (c.extract o (o + n)), ?_, alike_agg (alike_sub h o n hl)⟩
      simp [part, run_isAgg' w hg, run_size w hs]
    · have : ¬ Nat.add o n ≤ gs.length := hl
      simp only [this, decide_false, cond_false, reduceCtorEq] at hv
  | false =>
    simp only [cond_false, nth_eq] at hv
    obtain ⟨x, hx, hr, _⟩ := h.get hv
    refine ⟨x, ?_, hr⟩
    simp only [part, Sem.run_bind, run_isAgg' w hg, Result.andThen_ok, Bool.false_eq_true, if_false, hx]
    rfl

/-- Cells that lie in memory. -/
structure Lies (Γ : Gam) (w : World) (r o : Nat) (gs : List GVal) : Prop where
  ex : ∃ f : Nat → Value, (∀ j, j < gs.length → w.cell? ⟨r, o + j, none⟩ = some (f j)) ∧ (∀ v ∈ gs, v.one = true) ∧ ∀ j (hj : j < gs.length), VRel Γ (f j) gs[j]

theorem loadV_sound {Γ : Gam} {r o : Nat} {gs : List GVal} (h : Lies Γ w r o gs) (t : TypeId) (n p : Nat) (g : Bool) (hs : sizeT P t = some n) (hg : aggT P t = some g) (v : GVal) (hv : gPart g gs p n = some v) :
    ∃ z, (loadVar t ⟨r, o + p, none⟩).run P w = .ok z w ∧ VRel Γ z v := by
  obtain ⟨f, hc, h1, hf⟩ := h.ex
  unfold gPart at hv
  cases g with
  | true =>
    simp only [cond_true, ble_bool] at hv
    by_cases hl : p + n ≤ gs.length
    · have : Nat.add p n ≤ gs.length := hl
      simp only [this, decide_true, cond_true, Option.some.injEq] at hv
      subst hv
      have hrun := run_loadCells (P := P) w ⟨r, o + p, none⟩ n (fun j => f (p + j)) (fun j hj => by
        rw [add_off, Nat.add_assoc]; exact hc (p + j) (by omega))
      refine ⟨.agg ((List.range n).map fun j => f (p + j)).toArray, ?_, ?_⟩
      · simp only [loadVar, Sem.run_bind, run_isAgg' w hg, Result.andThen_ok, if_true, run_size w hs, hrun]
        rfl
      · refine .agg _ _ (by simp; omega) (fun v hv => h1 v (List.mem_of_mem_drop (List.mem_of_mem_take hv))) (fun j hj => ?_)
        simp only [List.length_take, List.length_drop] at hj
        have := hf (p + j) (by omega)
        rw [getD_eq]
        simp only [List.getElem_take, List.getElem_drop]
        have hj' : j < n := by omega
        simpa [hj'] using this
    · have : ¬ Nat.add p n ≤ gs.length := hl
      simp only [this, decide_false, cond_false, reduceCtorEq] at hv
  | false =>
    simp only [cond_false, nth_eq] at hv
    have hj : p < gs.length := by
      rcases Nat.lt_or_ge p gs.length with h' | h'
      · exact h'
      · simp [List.getElem?_eq_none h'] at hv
    rw [List.getElem?_eq_getElem hj] at hv
    cases hv
    refine ⟨f p, ?_, hf p hj⟩
    simp [loadVar, run_isAgg' w hg, hc p hj]

/-- What a pointer to a variable of the ghost's leads to. -/
theorem lies_block {base : Nat} {W0 : World} {Γ : Gam} {gh : GHeap} (h : WRel base W0 Γ gh w) {k r o n : Nat} {vals : List GVal} {lo : Nat} {gr : Bool} (hk : gh.get k = some (.cells vals lo gr)) (hl : Γ.loc k = some (r, o, n)) :
    Lies Γ w r o vals := by
  obtain ⟨r', o', n', c, hl', _, hr, hs, hn, h1, hv, _⟩ := (h.blk k _ hk).2.ex
  rw [hl] at hl'; cases hl'
  refine ⟨fun j => c.getD (o + j) undef, fun j hj => ?_, h1, hv⟩
  have : o + j < c.size := by omega
  rw [hr.cell]
  simp [this]

theorem lies_imm {base : Nat} {W0 : World} {Γ : Gam} {gh : GHeap} (h : WRel base W0 Γ gh w) {r o : Nat} {el : GVal} {f : Nat → Value} (hi : ∀ j, j < el.cells.length → Γ.imm r (o + j) = some (f j))
    (h1 : ∀ v ∈ el.cells, v.one = true) (hv : ∀ j (hj : j < el.cells.length), VRel Γ (f j) el.cells[j]) : Lies Γ w r o el.cells :=
  ⟨f, fun j hj => h.immc _ _ _ (hi j hj), h1, hv⟩

theorem load_sound {base : Nat} {W0 : World} {Γ : Gam} {gh : GHeap} (h : WRel base W0 Γ gh w) (t : TypeId) (n : Nat) (g : Bool) (hs : sizeT P t = some n) (hg : aggT P t = some g) {x : Value} {a v : GVal} (hx : VRel Γ x a)
    (hv : loadV gh n g a = some v) : ∃ ad z, x = .pointer (some ad) ∧ (loadVar t ad).run P w = .ok z w ∧ VRel Γ z v := by
  cases hx <;> simp only [loadV, reduceCtorEq] at hv
  case ptr k r o m off hl =>
    cases hb : gh.get k with
    | none => simp [hb, cellsOf, partOf] at hv
    | some b =>
      cases b <;> simp only [hb, cellsOf, partOf, reduceCtorEq] at hv
      case cells vals lo gr =>
        obtain ⟨z, hz, hr⟩ := loadV_sound (P := P) w (lies_block w h hb hl) t n off g hs hg v hv
        exact ⟨_, z, rfl, hz, hr⟩
  case vptr r o off el f hi h1 hf =>
    obtain ⟨z, hz, hr⟩ := loadV_sound (P := P) w (lies_imm w h hi h1 hf) t n off g hs hg v hv
    exact ⟨_, z, rfl, hz, hr⟩

/-! ### Indexes -/
theorem idx_sound {Γ : Gam} {x : Value} {v : GVal} (hx : VRel Γ x v) {n i : Nat} (h : idx? v n = some i) : ∃ k, x = .int k i ∧ i < n := by
  cases hx <;> simp only [idx?, reduceCtorEq] at h
  case int k m =>
    cases m with
    | negSucc m => simp at h
    | ofNat m =>
      simp only [blt_bool] at h
      by_cases hm : m < n
      · simp only [hm, decide_true, cond_true, Option.some.injEq] at h; subst h; exact ⟨k, rfl, hm⟩
      · simp [hm] at h
theorem bound_sound {Γ : Gam} {x : Value} {v : GVal} (hx : VRel Γ x v) {n i : Nat} (h : bound? v n = some i) : ∃ k, x = .int k i ∧ i ≤ n := by
  cases hx <;> simp only [bound?, reduceCtorEq] at h
  case int k m =>
    cases m with
    | negSucc m => simp at h
    | ofNat m =>
      simp only [ble_bool] at h
      by_cases hm : m ≤ n
      · simp only [hm, decide_true, cond_true, Option.some.injEq] at h; subst h; exact ⟨k, rfl, hm⟩
      · simp [hm] at h

theorem run_sliceBound (k : IntKind) (i y : Nat) (code : BoundsCode) (h : i ≤ y) : (Instr.sliceBound (.int k i) y code).run P w = .ok i w := by
  simp [Instr.sliceBound, asIntOf, h]

def LoIs (lo : Option Value) (l : Nat) : Prop := (lo = none ∧ l = 0) ∨ ∃ k, lo = some (.int k l)
def HiIs (hi : Option Value) (h len : Nat) : Prop := (hi = none ∧ h = len) ∨ ∃ k, hi = some (.int k h)

theorem run_bounds2 (b : Bool) (len cap l h : Nat) (lo hi : Option Value) (hl : LoIs lo l) (hh : HiIs hi h len) (h1 : l ≤ h) (h2 : h ≤ cap) :
    (Instr.sliceBounds b len cap lo hi none).run P w = .ok (l, h, cap) w := by
  rcases hl with ⟨rfl, rfl⟩ | ⟨k, rfl⟩ <;> rcases hh with ⟨rfl, rfl⟩ | ⟨k', rfl⟩ <;>
    simp only [Instr.sliceBounds, Sem.run_bind, Sem.run_pure, Result.andThen_ok, run_sliceBound w _ _ _ _ h1, run_sliceBound w _ _ _ _ h2]
theorem run_bounds3 (b : Bool) (len cap l h m : Nat) (km kh : IntKind) (lo : Option Value) (hl : LoIs lo l) (h1 : l ≤ h) (h2 : h ≤ m) (h3 : m ≤ cap) :
    (Instr.sliceBounds b len cap lo (some (.int kh h)) (some (.int km m))).run P w = .ok (l, h, m) w := by
  rcases hl with ⟨rfl, rfl⟩ | ⟨k, rfl⟩ <;>
    simp only [Instr.sliceBounds, Sem.run_bind, Sem.run_pure, Result.andThen_ok, run_sliceBound w _ _ _ _ h1, run_sliceBound w _ _ _ _ h2, run_sliceBound w _ _ _ _ h3]

theorem run_indexS (t e : TypeId) (n : Nat) (hu : P.underlying t = some (.slice e)) (hs : sizeT P e = some n) (a : Addr) (len cap : Nat) (k : IntKind) (i : Nat) (hi : i < len) :
    (Instr.indexAt t (.slice (some a) len cap) (.int k i)).run P w = .ok (.pointer (some (a.add (i * n)))) w := by
  have h2 : (0 : Int) ≤ i ∧ (i : Int) < len := by omega
  simp only [Instr.indexAt, asIntOf, Sem.run_bind, Sem.run_pure, Result.andThen_ok, run_underlying hu, run_size w hs, h2, and_self, if_true, Int.toNat_natCast]

theorem run_indexA (t e : TypeId) (n m : Nat) (hu : P.underlying t = some (.array m e)) (hs : sizeT P e = some n) (a : Addr) (k : IntKind) (i : Nat) (hi : i < m) :
    (Instr.indexAt t (.pointer (some a)) (.int k i)).run P w = .ok (.pointer (some (a.add (i * n)))) w := by
  have h2 : (0 : Int) ≤ i ∧ (i : Int) < m := by omega
  simp only [Instr.indexAt, asIntOf, Sem.run_bind, Sem.run_pure, Result.andThen_ok, run_underlying hu, run_size w hs, h2, and_self, if_true, Int.toNat_natCast, Instr.sureAddr]

theorem ixS_sound {Γ : Gam} (t e : TypeId) (n : Nat) (hu : P.underlying t = some (.slice e)) (hs : sizeT P e = some n) {x y : Value} {v u : GVal} (hx : VRel Γ x v) (hy : VRel Γ y u) (r : GVal) (h : ixS n v u = some r) :
    ∃ z, (Instr.indexAt t x y).run P w = .ok z w ∧ VRel Γ z r := by
  cases hx <;> simp only [ixS, reduceCtorEq] at h
  case vsl q o cap sz els tok f hsz hz hi h1 hf hc ht =>
    cases hix : idx? u els.length with
    | none => simp [hix, elAddr] at h
    | some i =>
      obtain ⟨k, rfl, hil⟩ := idx_sound hy hix
      simp only [hix, elAddr, nth_eq, List.getElem?_eq_getElem hil, beq_bool] at h
      by_cases he : els[i].cells.length = n
      · simp only [he, decide_true, cond_true, Option.some.injEq] at h
        subst h
        refine ⟨_, run_indexS w t e n hu hs _ _ _ k i hil, ?_⟩
        rw [add_off]
        have hsn : sz = n := by rw [← he]; exact (hsz _ (List.getElem_mem hil)).symm
        subst hsn
        refine .vptr q (o + i * sz) 0 els[i] (f i) (fun j hj => ?_) (h1 _ (List.getElem_mem hil)) (hf i hil)
        rw [Nat.add_assoc]; exact hi i j hil (by rw [he] at hj; exact hj)
      · simp [he] at h
  case hsl k' q o m off len cap esz hl hz hc hn =>
    cases hix : idx? u len with
    | none => simp [hix, offAddr] at h
    | some i =>
      obtain ⟨k, rfl, hil⟩ := idx_sound hy hix
      simp only [hix, offAddr, Option.some.injEq] at h
      subst h
      refine ⟨_, run_indexS w t e n hu hs _ _ _ k i hil, ?_⟩
      rw [add_off, Nat.add_assoc]
      exact .ptr k' q o m (off + i * n) hl

theorem ixA_sound {Γ : Gam} (t e : TypeId) (n m : Nat) (hu : P.underlying t = some (.array m e)) (hs : sizeT P e = some n) {x y : Value} {v u : GVal} (hx : VRel Γ x v) (hy : VRel Γ y u) (r : GVal) (h : ixA n m v u = some r) :
    ∃ z, (Instr.indexAt t x y).run P w = .ok z w ∧ VRel Γ z r := by
  cases hx <;> simp only [ixA, reduceCtorEq] at h
  case ptr k' q o l off hl =>
    cases hix : idx? u m with
    | none => simp [hix, offAddr] at h
    | some i =>
      obtain ⟨k, rfl, hil⟩ := idx_sound hy hix
      simp only [hix, offAddr, Option.some.injEq] at h
      subst h
      refine ⟨_, run_indexA w t e n m hu hs _ k i hil, ?_⟩
      rw [add_off, Nat.add_assoc]
      exact .ptr k' q o l (off + i * n) hl
  case vptr q o off el f hi h1 hf =>
    cases hix : idx? u m with
    | none => simp [hix, voffAddr] at h
    | some i =>
      obtain ⟨k, rfl, hil⟩ := idx_sound hy hix
      simp only [hix, voffAddr, Option.some.injEq] at h
      subst h
      refine ⟨_, run_indexA w t e n m hu hs _ k i hil, ?_⟩
      rw [add_off, Nat.add_assoc]
      exact .vptr q o (off + i * n) el f hi h1 hf

theorem ixStr_sound {Γ : Gam} (t : TypeId) (hu : P.underlying t = some .string) {x y : Value} {v u : GVal} (hx : VRel Γ x v) (hy : VRel Γ y u) (r : GVal) (h : ixStrV v u = some r) :
    ∃ z, (Instr.index t x y).run P w = .ok z w ∧ VRel Γ z r := by
  cases hx <;> simp only [ixStrV, reduceCtorEq] at h
  case str s l hl =>
    cases hix : idx? u l.length with
    | none => simp [hix, byteAt] at h
    | some i =>
      obtain ⟨k, rfl, hil⟩ := idx_sound hy hix
      simp only [hix, byteAt, nth_eq, List.getElem?_eq_getElem hil, Option.some.injEq] at h
      subst h; subst hl
      have hi : i < s.size := by have := bts_length s; unfold bts at this; omega
      refine ⟨.int .u8 (s[i].toNat), ?_, ?_⟩
      · simp only [Instr.index, asIntOf, Sem.run_bind, Sem.run_pure, Result.andThen_ok, run_underlying hu]
        have : (0 : Int) ≤ i := by omega
        simp only [this, if_true, Int.toNat_natCast, ByteArray.getElem?_lt' s i hi, Sem.run_pure]
      · have e : (s.data.toList.map (·.toNat))[i] = s[i].toNat := by simp; rfl
        rw [e]; exact .int _ _

theorem ixArr_sound {Γ : Gam} (t e : TypeId) (n m : Nat) (g : Bool) (hu : P.underlying t = some (.array m e)) (hs : sizeT P e = some n) (hg : aggT P e = some g) {x y : Value} {v u : GVal} (hx : VRel Γ x v) (hy : VRel Γ y u) (r : GVal) (h : ixArrV n m g v u = some r) :
    ∃ z, (Instr.index t x y).run P w = .ok z w ∧ VRel Γ z r := by
  cases hx <;> simp only [ixArrV, reduceCtorEq] at h
  case agg cs gs he h1 hf =>
    cases hix : idx? u m with
    | none => simp [hix] at h
    | some i =>
      obtain ⟨k, rfl, hil⟩ := idx_sound hy hix
      simp only [hix] at h
      obtain ⟨z, hz, hr⟩ := gPart_sound (P := P) w ⟨he, h1, hf⟩ e n (i * n) g hs hg r h
      refine ⟨z, ?_, hr⟩
      have h2 : (0 : Int) ≤ i ∧ (i : Int) < m := by omega
      simp only [Instr.index, asIntOf, Sem.run_bind, Sem.run_pure, Result.andThen_ok, run_underlying hu, h2, and_self, if_true, run_size w hs, Int.toNat_natCast]
      exact hz

/-! ### Slice expressions -/
theorem headSz_of {els : List GVal} {sz n : Nat} (hsz : ∀ e ∈ els, e.cells.length = sz) (h : headSz els n = true) (hne : els ≠ []) : sz = n := by
  cases els with
  | nil => exact absurd rfl hne
  | cons e r =>
    simp only [headSz, beq_bool, decide_eq_true_eq] at h
    rw [← h]; exact (hsz e (by simp)).symm

theorem vsl_sub {Γ : Gam} {q o sz : Nat} {els : List GVal} {f : Nat → Nat → Value} (hsz : ∀ e ∈ els, e.cells.length = sz) (hz : 0 < sz) (hi : ∀ i j, i < els.length → j < sz → Γ.imm q (o + (i * sz + j)) = some (f i j))
    (h1 : ∀ e ∈ els, ∀ v ∈ e.cells, v.one = true) (hf : ∀ i (hl : i < els.length) j (hj : j < els[i].cells.length), VRel Γ (f i j) els[i].cells[j]) (l h c o' : Nat) (hlh : l ≤ h) (hh : h ≤ els.length) (hc : h - l ≤ c) (ho : l < h → o' = o + l * sz)
    (tok : Tok) (ht : tok = .none ∨ (tok = .clip ∧ c = h - l)) : VRel Γ (.slice (some ⟨q, o', none⟩) (h - l) c) (.vsl ((els.drop l).take (h - l)) tok) := by
  have hlen : ((els.drop l).take (h - l)).length = h - l := by simp; omega
  have mem : ∀ e ∈ (els.drop l).take (h - l), e ∈ els := fun e he => List.mem_of_mem_drop (List.mem_of_mem_take he)
  have hget : ∀ i (hi : i < ((els.drop l).take (h - l)).length), ((els.drop l).take (h - l))[i] = els[l + i]'(by omega) := fun i hi => by simp
  have := VRel.vsl (Γ := Γ) q o' c sz ((els.drop l).take (h - l)) tok (fun i j => f (l + i) j) (fun e he => hsz e (mem e he)) hz (fun i j hil hj => by
      rw [ho (by omega)]
      have := hi (l + i) j (by omega) hj
      rw [show o + l * sz + (i * sz + j) = o + ((l + i) * sz + j) by rw [Nat.add_mul]; omega]
      exact this) (fun e he => h1 e (mem e he)) (fun i hil j hj => by
      have := hf (l + i) (by omega) j (by rw [hget i hil] at hj; exact hj)
      simp only [hget i hil]
      exact this) (by rw [hlen]; exact hc) (by
      rw [hlen]
      rcases ht with rfl | ⟨rfl, e⟩
      · trivial
      · exact e)
  rw [hlen] at this
  exact this

theorem slice_sound {Γ : Gam} (t e : TypeId) (n : Nat) (hu : P.underlying t = some (.slice e)) (hs : sizeT P e = some n) {x : Value} {v : GVal} (hx : VRel Γ x v) (hns : isStr v = false) (lo hi mx : Option Value) (glo ghi gmx : Option GVal)
    (hlo : (lo = none ∧ glo = none) ∨ ∃ a b, lo = some a ∧ glo = some b ∧ VRel Γ a b) (hhi : (hi = none ∧ ghi = none) ∨ ∃ a b, hi = some a ∧ ghi = some b ∧ VRel Γ a b) (hmx : (mx = none ∧ gmx = none) ∨ ∃ a b, mx = some a ∧ gmx = some b ∧ VRel Γ a b)
    (hmh : mx.isSome = true → hi.isSome = true) (r : GVal) (h : gSlice n v glo ghi gmx = some r) : ∃ z, (Instr.slice t x lo hi mx).run P w = .ok z w ∧ VRel Γ z r := by
  -- the bounds as the model reckons them
  unfold gSlice at h
  cases hln : lenOf v with
  | none => simp [hln] at h
  | some len =>
    simp only [hln] at h
    cases hho : hiOf ghi len with
    | none => simp [hho] at h
    | some hh =>
      simp only [hho] at h
      cases hlo' : loOf glo hh with
      | none => simp [hlo'] at h
      | some ll =>
        simp only [hlo'] at h
        have hll : ll ≤ hh ∧ LoIs lo ll := by
          rcases hlo with ⟨rfl, rfl⟩ | ⟨a, b, rfl, rfl, hab⟩
          · simp only [loOf, Option.some.injEq] at hlo'; subst hlo'; exact ⟨Nat.zero_le _, .inl ⟨rfl, rfl⟩⟩
          · simp only [loOf] at hlo'
            obtain ⟨k, rfl, hle⟩ := bound_sound hab hlo'
            exact ⟨hle, .inr ⟨k, rfl⟩⟩
        have hhh : hh ≤ len ∧ HiIs hi hh len := by
          rcases hhi with ⟨rfl, rfl⟩ | ⟨a, b, rfl, rfl, hab⟩
          · simp only [hiOf, Option.some.injEq] at hho; subst hho; exact ⟨Nat.le_refl _, .inl ⟨rfl, rfl⟩⟩
          · simp only [hiOf] at hho
            obtain ⟨k, rfl, hle⟩ := bound_sound hab hho
            exact ⟨hle, .inr ⟨k, rfl⟩⟩
        have hhi' := hhh.2
        have hhh := hhh.1
        -- without a third index
        have run2 : ∀ (a : Option Addr) (cap : Nat), len ≤ cap → mx = none → (Instr.slice t (.slice a len cap) lo hi mx).run P w = .ok (.slice (if cap = ll then a else a.map (·.add (ll * n))) (hh - ll) (cap - ll)) w := by
          intro a cap hcap hm
          subst hm
          have hb := run_bounds2 (P := P) w true len cap ll hh lo hi hll.2 hhi' hll.1 (by omega)
          unfold Instr.slice
          simp only [Sem.run_bind, run_underlying hu, Result.andThen_ok, hb, run_size w hs, Sem.run_pure]
        -- with one
        have run3 : ∀ (a : Option Addr) (cap m : Nat) (mv : Value) (k : IntKind), len ≤ cap → m ≤ cap → hh ≤ m → mx = some mv → mv = .int k m → (Instr.slice t (.slice a len cap) lo hi mx).run P w = .ok (.slice (if m = ll then a else a.map (·.add (ll * n))) (hh - ll) (m - ll)) w := by
          intro a cap m mv k hcap hmc hhm hm hmv
          subst hm; subst hmv
          have hsome := hmh rfl
          rcases hhi' with ⟨rfl, rfl⟩ | ⟨k', rfl⟩
          · simp at hsome
          · have hb := run_bounds3 (P := P) w true len cap ll hh m k k' lo hll.2 hll.1 hhm hmc
            unfold Instr.slice
            simp only [Sem.run_bind, run_underlying hu, Result.andThen_ok, hb, run_size w hs, Sem.run_pure]
        cases hx <;> simp only [lenOf, Option.some.injEq, reduceCtorEq] at hln
        case str => simp [isStr] at hns
        case nils =>
          subst hln
          simp only [gSliceAt, slNils] at h
          have hh0 : hh = 0 := by omega
          have ll0 : ll = 0 := by omega
          subst hh0; subst ll0
          rcases hmx with ⟨rfl, rfl⟩ | ⟨a, b, rfl, rfl, hab⟩
          · simp only [Option.some.injEq] at h; subst h
            exact ⟨_, run2 none 0 (Nat.le_refl _) rfl, by simpa using VRel.nils⟩
          · cases hm : bound? b 0 with
            | none => simp [hm] at h
            | some m =>
              simp only [hm, Option.some.injEq] at h; subst h
              obtain ⟨k, rfl, hle⟩ := bound_sound hab hm
              have : m = 0 := by omega
              subst this
              exact ⟨_, run3 none 0 0 _ k (Nat.le_refl _) (Nat.le_refl _) (Nat.le_refl _) rfl rfl, by simpa using VRel.nils⟩
        case vsl q o cap sz els tok f hsz hz hi' h1 hf hc ht =>
          subst hln
          simp only [gSliceAt, slVsl] at h
          cases hhd : headSz els n with
          | false => simp [hhd] at h
          | true =>
            simp only [hhd, cond_true] at h
            rcases hmx with ⟨rfl, rfl⟩ | ⟨a, b, rfl, rfl, hab⟩
            · simp only [beq_bool] at h
              refine ⟨_, run2 _ cap hc rfl, ?_⟩
              by_cases hw : ll = 0 ∧ hh = els.length
              · obtain ⟨rfl, rfl⟩ := hw
                simp only [decide_true, Bool.and_self, cond_true, Option.some.injEq] at h
                subst h
                have : (if cap = 0 then some (⟨q, o, none⟩ : Addr) else (some (⟨q, o, none⟩ : Addr)).map (·.add (0 * n))) = some ⟨q, o, none⟩ := by
                  split
                  · rfl
                  · simp [add_off]
                rw [this]
                exact .vsl q o cap sz els tok f hsz hz hi' h1 hf hc ht
              · have : (decide (ll = 0) && decide (hh = els.length)) = false := by simp; omega
                rw [this] at h
                simp only [cond_false, Option.some.injEq] at h
                subst h
                have hne : ll < hh → sz = n := fun hlt => headSz_of hsz hhd (by intro e; subst e; simp at hhh; omega)
                split
                · exact vsl_sub hsz hz hi' h1 hf ll hh (cap - ll) o hll.1 hhh (by omega) (fun hlt => by omega) .none (.inl rfl)
                · simp only [Option.map_some, add_off]
                  exact vsl_sub hsz hz hi' h1 hf ll hh (cap - ll) (o + ll * n) hll.1 hhh (by omega) (fun hlt => by rw [hne hlt]) .none (.inl rfl)
            · cases hm : bound? b els.length with
              | none => simp [hm] at h
              | some m =>
                simp only [hm, beq_bool] at h
                by_cases hme : m = hh
                · simp only [hme, decide_true, cond_true, Option.some.injEq] at h
                  subst h; subst hme
                  obtain ⟨k, rfl, hle⟩ := bound_sound hab hm
                  refine ⟨_, run3 _ cap m _ k hc (by omega) (Nat.le_refl _) rfl rfl, ?_⟩
                  have hne : ll < m → sz = n := fun hlt => headSz_of hsz hhd (by intro e; subst e; simp at hhh; omega)
                  split
                  · exact vsl_sub hsz hz hi' h1 hf ll m (m - ll) o hll.1 hhh (Nat.le_refl _) (fun hlt => by omega) .clip (.inr ⟨rfl, rfl⟩)
                  · simp only [Option.map_some, add_off]
                    exact vsl_sub hsz hz hi' h1 hf ll m (m - ll) (o + ll * n) hll.1 hhh (Nat.le_refl _) (fun hlt => by rw [hne hlt]) .clip (.inr ⟨rfl, rfl⟩)
                · simp [hme] at h
        case hsl k' q o m off len' cap esz hl hz hc hn =>
          subst hln
          simp only [gSliceAt, slHsl] at h
          rcases hmx with ⟨rfl, rfl⟩ | ⟨a, b, rfl, rfl, hab⟩
          · simp only [beq_bool, blt_bool] at h
            cases hcond : ((decide (ll = 0) || decide (ll < hh)) && decide (esz = n)) with
            | false => simp [hcond] at h
            | true =>
              simp only [hcond, cond_true, Option.some.injEq] at h
              subst h
              simp only [Bool.and_eq_true, Bool.or_eq_true, decide_eq_true_eq] at hcond
              obtain ⟨hcond, rfl⟩ := hcond
              refine ⟨_, run2 _ cap hc rfl, ?_⟩
              have e : (if cap = ll then some (⟨q, o + off, none⟩ : Addr) else (some (⟨q, o + off, none⟩ : Addr)).map (·.add (ll * esz))) = some ⟨q, o + (off + ll * esz), none⟩ := by
                rcases hcond with h0 | h0
                · subst h0; split <;> simp [add_off]
                · rw [if_neg (by omega)]; simp [add_off, Nat.add_assoc]
              rw [e]
              refine .hsl k' q o m (off + ll * esz) (hh - ll) (cap - ll) esz hl hz (by omega) ?_
              have : ll * esz + (cap - ll) * esz = cap * esz := by rw [← Nat.add_mul]; congr 1; omega
              omega
          · simp at h

theorem sliceStr_sound {Γ : Gam} (t : TypeId) (hu : P.underlying t = some .string) {x : Value} {v : GVal} (hx : VRel Γ x v) (hst : isStr v = true) (lo hi : Option Value) (glo ghi : Option GVal)
    (hlo : (lo = none ∧ glo = none) ∨ ∃ a b, lo = some a ∧ glo = some b ∧ VRel Γ a b) (hhi : (hi = none ∧ ghi = none) ∨ ∃ a b, hi = some a ∧ ghi = some b ∧ VRel Γ a b)
    (r : GVal) (h : gSlice 1 v glo ghi none = some r) : ∃ z, (Instr.slice t x lo hi none).run P w = .ok z w ∧ VRel Γ z r := by
  cases hx <;> simp only [isStr, Bool.false_eq_true] at hst
  case str s l hl =>
    unfold gSlice at h
    simp only [lenOf] at h
    cases hho : hiOf ghi l.length with
    | none => simp [hho] at h
    | some hh =>
      simp only [hho] at h
      cases hlo' : loOf glo hh with
      | none => simp [hlo'] at h
      | some ll =>
        simp only [hlo', gSliceAt, slStr, Option.some.injEq] at h
        subst h
        have hlen : l.length = s.size := by rw [← hl]; exact bts_length s
        have hlo2 : ll ≤ hh ∧ LoIs lo ll := by
          rcases hlo with ⟨rfl, rfl⟩ | ⟨a, b, rfl, rfl, hab⟩
          · simp only [loOf, Option.some.injEq] at hlo'; subst hlo'; exact ⟨Nat.zero_le _, .inl ⟨rfl, rfl⟩⟩
          · simp only [loOf] at hlo'
            obtain ⟨k, rfl, hle⟩ := bound_sound hab hlo'
            exact ⟨hle, .inr ⟨k, rfl⟩⟩
        have hhi2 : hh ≤ s.size ∧ HiIs hi hh s.size := by
          rcases hhi with ⟨rfl, rfl⟩ | ⟨a, b, rfl, rfl, hab⟩
          · simp only [hiOf, Option.some.injEq] at hho; exact ⟨by omega, .inl ⟨rfl, by omega⟩⟩
          · simp only [hiOf] at hho
            obtain ⟨k, rfl, hle⟩ := bound_sound hab hho
            exact ⟨by omega, .inr ⟨k, rfl⟩⟩
        have hb := run_bounds2 (P := P) w false s.size s.size ll hh lo hi hlo2.2 hhi2.2 hlo2.1 hhi2.1
        refine ⟨.string (s.extract ll hh), ?_, .str _ _ ?_⟩
        · unfold Instr.slice
          simp only [Sem.run_bind, run_underlying hu, Result.andThen_ok, hb, Sem.run_pure, Option.isSome_none, Bool.false_eq_true, if_false]
        · rw [← hl]; simp [List.map_take, List.map_drop]
end
end Go.Gh

/-
  THE GHOST MACHINE, TWELFTH TEXT: structs, arrays and slices that are built.
  No claim is proved here.
-/
namespace Go.Gh

theorem run_mapM_list {α β : Type} (P : Program) (w : World) (f : α → Sem β) (g : α → β) : ∀ (l : List α), (∀ x ∈ l, (f x).run P w = .ok (g x) w) → (l.mapM f).run P w = .ok (l.map g) w := by
  intro l
  induction l with
  | nil => intro _; simp
  | cons a l ih =>
    intro h
    simp only [List.mapM_cons, Sem.run_bind, h a (by simp), Result.andThen_ok, ih (fun x hx => h x (by simp [hx])), Sem.run_pure, List.map_cons]

theorem run_mapM_array {α β : Type} (P : Program) (w : World) (f : α → Sem β) (g : α → β) (a : Array α) (h : ∀ x ∈ a.toList, (f x).run P w = .ok (g x) w) : (a.mapM f).run P w = .ok (a.map g) w := by
  rw [Array.mapM_eq_mapM_toList, Sem.run_map, run_mapM_list P w f g a.toList h]
  simp only [Result.andThen_ok]
  congr 1
  apply Array.ext'; simp

/-- Setting cells one by one, as the model does it. -/
theorem foldl_spl : ∀ (l : List Value) (c : Array Value) (o k : Nat), (l.zipIdx k).foldl (fun cs (p : Value × Nat) => cs.setIfInBounds (o + p.2) p.1) c = spl c (o + k) l := by
  intro l
  induction l with
  | nil => intro c o k; rfl
  | cons v l ih =>
    intro c o k
    simp only [List.zipIdx_cons, List.foldl_cons, spl]
    rw [ih]
    rfl

theorem array_foldl_spl (a : Array Value) (c : Array Value) (o : Nat) : a.zipIdx.foldl (fun cs (p : Value × Nat) => cs.setIfInBounds (o + p.2) p.1) c = spl c o a.toList := by
  rw [← Array.foldl_toList, Array.toList_zipIdx, foldl_spl]
  rfl

theorem alike_spl {Γ : Gam} {c x : Array Value} {gs v : List GVal} (h : ALike Γ c gs) (hx : ALike Γ x v) (o : Nat) (hl : o + v.length ≤ gs.length) : ALike Γ (spl c o x.toList) (splice gs o v) := by
  have hxl : x.toList.length = v.length := by simpa using hx.size
  have hlen : (splice gs o v).length = gs.length := by
    simp only [splice, List.length_append, List.length_take, List.length_drop]
    have : Nat.add o v.length = o + v.length := rfl
    rw [this]; omega
  refine ⟨by rw [spl_size, h.size, hlen], fun u hu => ?_, fun j hj => ?_⟩
  · simp only [splice, List.mem_append] at hu
    rcases hu with (hu | hu) | hu
    · exact h.one u (List.mem_of_mem_take hu)
    · exact hx.one u hu
    · exact h.one u (List.mem_of_mem_drop hu)
  · rw [hlen] at hj
    rw [getD_eq]
    by_cases h1 : j < o
    · rw [spl_out _ _ _ _ (.inl h1)]
      have e : (splice gs o v)[j]'(by rw [hlen]; exact hj) = gs[j] := by
        simp only [splice]
        rw [List.getElem_append_left (by simp; omega), List.getElem_append_left (by simp; omega)]
        simp
      rw [e, ← getD_eq]; exact h.at_ j hj
    · by_cases h2 : j < o + v.length
      · have ej : j = o + (j - o) := by omega
        have hin := spl_in x.toList c o (j - o) (by omega) (by rw [h.size]; omega)
        rw [← ej] at hin
        rw [hin]
        have e : (splice gs o v)[j]'(by rw [hlen]; exact hj) = v[j - o] := by
          simp only [splice]
          rw [List.getElem_append_left (by simp; omega), List.getElem_append_right (by simp; omega)]
          simp only [List.length_take]
          congr 1; omega
        rw [e]
        have := hx.at_ (j - o) (by omega)
        rw [getD_eq] at this
        simpa using this
      · rw [spl_out _ _ _ _ (.inr (by omega))]
        have e : (splice gs o v)[j]'(by rw [hlen]; exact hj) = gs[j] := by
          simp only [splice]
          rw [List.getElem_append_right (by simp; omega)]
          simp only [List.getElem_drop, List.length_append, List.length_take]
          have : Nat.add o v.length = o + v.length := rfl
          congr 1; rw [this]; omega
        rw [e, ← getD_eq]; exact h.at_ j hj

/-- A row that is filled: 'fill' and its ghost. -/
theorem fill_sound {Γ : Gam} (place : Nat → Option (Nat × Nat)) (ev : Ev) (ρ : Operand → Value) : ∀ (parts : List (Nat × Operand)) (gp : List (Nat × Nat × GArg)) (c : Array Value) (gs gs' : List GVal), ALike Γ c gs →
    parts.length = gp.length → (∀ j (h1 : j < parts.length) (h2 : j < gp.length), place parts[j].1 = some (gp[j].1, gp[j].2.1) ∧ VRel Γ (ρ parts[j].2) (ev gp[j].2.2)) → gFill ev gp gs = some gs' →
    ∃ c', Instr.fill place c (parts.map fun p => (p.1, ρ p.2)) = some c' ∧ ALike Γ c' gs' := by
  intro parts
  induction parts with
  | nil =>
    intro gp c gs gs' h hl _ hf
    cases gp with
    | nil => simp only [gFill, Option.some.injEq] at hf; subst hf; exact ⟨c, rfl, h⟩
    | cons => simp at hl
  | cons p parts ih =>
    intro gp c gs gs' h hl hp hf
    cases gp with
    | nil => simp at hl
    | cons g gp =>
      simp only [gFill] at hf
      cases hc : (notTup (ev g.2.2) && Nat.beq (ev g.2.2).cells.length g.2.1 && Nat.ble (Nat.add g.1 g.2.1) gs.length) with
      | false => simp only [hc, cond_false, reduceCtorEq] at hf
      | true =>
        simp only [hc, cond_true] at hf
        simp only [Bool.and_eq_true, beq_bool, ble_bool, decide_eq_true_eq] at hc
        obtain ⟨⟨hn, h1⟩, h2⟩ := hc
        have h2 : g.1 + g.2.1 ≤ gs.length := h2
        obtain ⟨hpl, hr⟩ := hp 0 (by simp) (by simp)
        simp only [List.getElem_cons_zero] at hpl hr
        have hx := cells_alike hr hn
        have hsize : (ρ p.2).cells.size = g.2.1 := by rw [hx.size, h1]
        obtain ⟨c', hc', ha⟩ := ih gp (spl c g.1 (ρ p.2).cells.toList) (splice gs g.1 (ev g.2.2).cells) gs' (alike_spl h hx g.1 (by omega)) (by simpa using hl)
          (fun j a b => by have := hp (j + 1) (by simp; omega) (by simp; omega); simpa using this) hf
        refine ⟨c', ?_, ha⟩
        simp only [List.map_cons, Instr.fill, hpl]
        rw [if_neg (by simp only [hsize, Bool.or_eq_true, decide_eq_true_eq, not_or]; exact ⟨by simp, by rw [h.size]; omega⟩)]
        rw [array_foldl_spl]
        exact hc'

/-- What a compiled operand stands for. -/
def CfgOK (P : Program) (C : GCfg) (Γ : Gam) : Prop :=
  (∀ g v, C.glob g = some v → VRel Γ (.pointer (some ⟨g, 0, none⟩)) v) ∧ (∀ u ∈ C.ints, ∃ i k, P.info? u = some i ∧ i.comparable = true ∧ P.underlying u = some (.int k)) ∧ ∀ i x, Γ.unk i = some x → C.unk i x

theorem CfgOK.mono {P : Program} {C : GCfg} {Γ Γ' : Gam} (hle : Γ.le Γ') (h : CfgOK P C Γ) : CfgOK P C Γ' := ⟨fun g v e => (h.1 g v e).mono hle, h.2.1, fun i x e => h.2.2 i x (by rw [← hle.unk]; exact e)⟩

section
variable {P : Program} {C : GCfg} {Γ : Gam} {a : Act} {ts : GFr}

theorem arg_rel (hC : CfgOK P C Γ) (hA : ARel Γ a ts) {x : Operand} {g : GArg} (h : gArg C x = some g) : VRel Γ (a.eval x) (g.get ts) := by
  cases x with
  | tmp t => simp only [gArg, Option.some.injEq] at h; subst h; exact hA.tmp t
  | const v => simp only [gArg, Option.map_eq_some_iff] at h; obtain ⟨u, hu, rfl⟩ := h; exact constOf_rel v u hu Γ
  | global g => simp only [gArg, Option.map_eq_some_iff] at h; obtain ⟨u, hu, rfl⟩ := h; exact hC.1 g u hu
  | func f => simp only [gArg, Option.some.injEq] at h; subst h; exact .func _ _ _ _ _ rfl rfl (fun i hi => by simp at hi) (fun i hi => by simp at hi)

theorem args_rel (hC : CfgOK P C Γ) (hA : ARel Γ a ts) : ∀ {xs : List Operand} {gs : List GArg}, gArgs C xs = some gs → xs.length = gs.length ∧ ∀ j (h1 : j < xs.length) (h2 : j < gs.length), VRel Γ (a.eval xs[j]) (gs[j].get ts) := by
  intro xs
  induction xs with
  | nil => intro gs h; simp only [gArgs, Option.some.injEq] at h; subst h; exact ⟨rfl, fun j h1 => by simp at h1⟩
  | cons x xs ih =>
    intro gs h
    simp only [gArgs] at h
    cases h1 : gArg C x with
    | none => simp [h1] at h
    | some g =>
      cases h2 : gArgs C xs with
      | none => simp [h1, h2] at h
      | some r =>
        simp only [h1, h2, Option.some.injEq] at h; subst h
        obtain ⟨e, hr⟩ := ih h2
        refine ⟨by simp [e], fun j hj hj' => ?_⟩
        cases j with
        | zero => exact arg_rel hC hA h1
        | succ j => simpa using hr j (by simpa using hj) (by simpa using hj')

theorem gParts_spec (fs : Array Field) : ∀ (parts : List (Nat × Operand)) (gp : List (Nat × Nat × GArg)), gParts P C fs parts = some gp → parts.length = gp.length ∧
    ∀ j (h1 : j < parts.length) (h2 : j < gp.length), (∃ f, fs[parts[j].1]? = some f ∧ f.offset = gp[j].1 ∧ sizeT P f.type = some gp[j].2.1) ∧ gArg C parts[j].2 = some gp[j].2.2 := by
  intro parts
  induction parts with
  | nil => intro gp h; simp only [gParts, Option.some.injEq] at h; subst h; exact ⟨rfl, fun j h1 => by simp at h1⟩
  | cons p parts ih =>
    intro gp h
    obtain ⟨i, x⟩ := p
    simp only [gParts] at h
    cases h1 : fs[i]? with
    | none => simp [h1] at h
    | some f =>
      cases h2 : gArg C x with
      | none => simp [h1, h2] at h
      | some g =>
        cases h3 : gParts P C fs parts with
        | none => simp [h1, h2, h3] at h
        | some r =>
          simp only [h1, h2, h3] at h
          cases h4 : sizeT P f.type with
          | none => simp [h4] at h
          | some n =>
            simp only [h4, Option.some.injEq] at h; subst h
            obtain ⟨e, hr⟩ := ih r h3
            refine ⟨by simp [e], fun j hj hj' => ?_⟩
            cases j with
            | zero => exact ⟨⟨f, h1, rfl, h4⟩, h2⟩
            | succ j => simpa using hr j (by simpa using hj) (by simpa using hj')

theorem gPartsA_spec (esz : Nat) : ∀ (parts : List (Nat × Operand)) (gp : List (Nat × Nat × GArg)), gPartsA C esz parts = some gp → parts.length = gp.length ∧
    ∀ j (h1 : j < parts.length) (h2 : j < gp.length), gp[j].1 = parts[j].1 * esz ∧ gp[j].2.1 = esz ∧ gArg C parts[j].2 = some gp[j].2.2 := by
  intro parts
  induction parts with
  | nil => intro gp h; simp only [gPartsA, Option.some.injEq] at h; subst h; exact ⟨rfl, fun j h1 => by simp at h1⟩
  | cons p parts ih =>
    intro gp h
    obtain ⟨i, x⟩ := p
    simp only [gPartsA] at h
    cases h2 : gArg C x with
    | none => simp [h2] at h
    | some g =>
      cases h3 : gPartsA C esz parts with
      | none => simp [h2, h3] at h
      | some r =>
        simp only [h2, h3, Option.some.injEq] at h; subst h
        obtain ⟨e, hr⟩ := ih r h3
        refine ⟨by simp [e], fun j hj hj' => ?_⟩
        cases j with
        | zero => exact ⟨rfl, rfl, h2⟩
        | succ j => simpa using hr j (by simpa using hj) (by simpa using hj')

theorem zero_alike {t : TypeId} {z : List GVal} (h : zeroT P t = some (.agg z)) (w : World) : ∃ c, (zeroValue t).run P w = .ok (.agg c) w ∧ ALike Γ c z := by
  obtain ⟨x, hx, hc⟩ := run_zero w h
  have hr := constOf_rel x _ hc Γ
  cases hr with
  | agg cs gs e h1 hf => exact ⟨cs, hx, e, h1, hf⟩

theorem build_struct_sound (hC : CfgOK P C Γ) (hA : ARel Γ a ts) (w : World) (t : TypeId) (fs : Array Field) (z : List GVal) (parts : Array (Nat × Operand)) (gp : List (Nat × Nat × GArg)) (hu : P.underlying t = some (.struct fs)) (hz : zeroT P t = some (.agg z))
    (hall : fs.toList.all (fun f => (sizeT P f.type).isSome) = true) (hp : gParts P C fs parts.toList = some gp) (v : GVal) (h : pBuild z gp (GArg.get ts) = some v) :
    ∃ x, (Instr.build t (parts.map fun (i, x) => (i, a.eval x))).run P w = .ok x w ∧ VRel Γ x v := by
  unfold pBuild at h
  cases hf : gFill (GArg.get ts) gp z with
  | none => simp [hf] at h
  | some l =>
    simp only [hf, Option.some.injEq] at h; subst h
    obtain ⟨c, hc, hal⟩ := zero_alike (Γ := Γ) hz w
    obtain ⟨e, hsp⟩ := gParts_spec fs parts.toList gp hp
    have hm := run_mapM_array P w (fun f : Field => (do pure (f.offset, ← sizeOf f.type) : Sem (Nat × Nat))) (fun f => (f.offset, (sizeT P f.type).getD 0)) fs (fun f hf => by
      have := List.all_eq_true.1 hall f hf
      obtain ⟨n, hn⟩ := Option.isSome_iff_exists.1 this
      simp [run_size w hn, hn])
    obtain ⟨c', hc', hal'⟩ := fill_sound (Γ := Γ) (fun i => (fs.map fun f : Field => (f.offset, (sizeT P f.type).getD 0))[i]?) (GArg.get ts) a.eval parts.toList gp c z l hal e (fun j h1 h2 => by
      obtain ⟨⟨f, hf, ho, hs⟩, hg⟩ := hsp j h1 h2
      refine ⟨?_, arg_rel hC hA hg⟩
      show (fs.map fun f : Field => (f.offset, (sizeT P f.type).getD 0))[_]? = _
      rw [Array.getElem?_map, hf]; simp [ho, hs]) hf
    refine ⟨.agg c', ?_, alike_agg hal'⟩
    unfold Instr.build
    simp only [Sem.run_bind, hc, Result.andThen_ok, Value.cells, run_underlying hu]
    rw [hm]
    simp only [Result.andThen_ok, Array.toList_map]
    have hc'' : Instr.fill (fun i => (fs.map fun f : Field => (f.offset, (sizeT P f.type).getD 0))[i]?) c (parts.toList.map fun (i, x) => (i, a.eval x)) = some c' := hc'
    rw [hc'']; rfl

theorem build_array_sound (hC : CfgOK P C Γ) (hA : ARel Γ a ts) (w : World) (t e : TypeId) (m n : Nat) (z : List GVal) (parts : Array (Nat × Operand)) (gp : List (Nat × Nat × GArg)) (hu : P.underlying t = some (.array m e)) (hz : zeroT P t = some (.agg z))
    (hs : sizeT P e = some n) (hp : gPartsA C n parts.toList = some gp) (v : GVal) (h : pBuild z gp (GArg.get ts) = some v) :
    ∃ x, (Instr.build t (parts.map fun (i, x) => (i, a.eval x))).run P w = .ok x w ∧ VRel Γ x v := by
  unfold pBuild at h
  cases hf : gFill (GArg.get ts) gp z with
  | none => simp [hf] at h
  | some l =>
    simp only [hf, Option.some.injEq] at h; subst h
    obtain ⟨c, hc, hal⟩ := zero_alike (Γ := Γ) hz w
    obtain ⟨el, hsp⟩ := gPartsA_spec n parts.toList gp hp
    obtain ⟨c', hc', hal'⟩ := fill_sound (Γ := Γ) (fun i => some (i * n, n)) (GArg.get ts) a.eval parts.toList gp c z l hal el (fun j h1 h2 => by
      obtain ⟨e1, e2, hg⟩ := hsp j h1 h2
      exact ⟨by rw [e1, e2], arg_rel hC hA hg⟩) hf
    refine ⟨.agg c', ?_, alike_agg hal'⟩
    unfold Instr.build
    simp only [Sem.run_bind, hc, Result.andThen_ok, Value.cells, run_underlying hu, run_size w hs, Array.toList_map]
    have hc'' : Instr.fill (fun i => some (i * n, n)) c (parts.toList.map fun (i, x) => (i, a.eval x)) = some c' := hc'
    rw [hc'']; rfl
end
end Go.Gh

/-
  THE GHOST MACHINE, THIRTEENTH TEXT: slices that are made.
  No claim is proved here.
-/
namespace Go.Gh

theorem flat_nil : flat [] = [] := rfl
theorem flat_cons (e : GVal) (r : List GVal) : flat (e :: r) = e.cells ++ flat r := by simp [flat]
theorem flat_append (a b : List GVal) : flat (a ++ b) = flat a ++ flat b := by simp [flat]

theorem flat_length {els : List GVal} {sz : Nat} (h : ∀ e ∈ els, e.cells.length = sz) : (flat els).length = els.length * sz := by
  induction els with
  | nil => simp [flat]
  | cons e r ih =>
    rw [flat_cons, List.length_append, ih (fun x hx => h x (by simp [hx])), h e (by simp)]
    simp [Nat.add_mul, Nat.add_comm]

theorem flat_get {els : List GVal} {sz : Nat} (h : ∀ e ∈ els, e.cells.length = sz) : ∀ (i j : Nat) (hi : i < els.length), j < sz → (flat els)[i * sz + j]? = els[i].cells[j]? := by
  induction els with
  | nil => intro i j hi; simp at hi
  | cons e r ih =>
    intro i j hi hj
    rw [flat_cons]
    have he := h e (by simp)
    cases i with
    | zero => simp only [Nat.zero_mul, Nat.zero_add, List.getElem_cons_zero]; rw [List.getElem?_append_left (by omega)]
    | succ i =>
      rw [List.getElem?_append_right (by rw [he, Nat.add_mul]; omega)]
      have := ih (fun x hx => h x (by simp [hx])) i j (by simpa using hi) hj
      rw [he, show (i + 1) * sz + j - sz = i * sz + j by rw [Nat.add_mul]; omega, this]
      simp

theorem flat_set {els : List GVal} {sz : Nat} (h : ∀ e ∈ els, e.cells.length = sz) (v : GVal) (hv : v.cells.length = sz) : ∀ (i : Nat), i < els.length → splice (flat els) (i * sz) v.cells = flat (els.set i v) := by
  induction els with
  | nil => intro i hi; simp at hi
  | cons e r ih =>
    intro i hi
    have he := h e (by simp)
    cases i with
    | zero =>
      simp only [Nat.zero_mul, List.set_cons_zero, flat_cons, splice, List.take_zero, List.nil_append]
      have : Nat.add 0 v.cells.length = sz := by rw [hv]; exact Nat.zero_add _
      rw [this, List.drop_append_of_le_length (by omega), List.drop_of_length_le (by omega)]; simp
    | succ i =>
      have ih := ih (fun x hx => h x (by simp [hx])) i (by simpa using hi)
      simp only [List.set_cons_succ, flat_cons, ← ih, splice]
      have e1 : (i + 1) * sz = e.cells.length + i * sz := by rw [he, Nat.add_mul]; omega
      have e2 : Nat.add ((i + 1) * sz) v.cells.length = e.cells.length + Nat.add (i * sz) v.cells.length := by
        show (i + 1) * sz + v.cells.length = e.cells.length + (i * sz + v.cells.length)
        rw [e1]; omega
      rw [e1, List.take_length_add_append, ← e1, e2, List.drop_length_add_append]
      simp [List.append_assoc]

theorem set_uniform {els : List GVal} {sz : Nat} (h : ∀ e ∈ els, e.cells.length = sz) (v : GVal) (hv : v.cells.length = sz) (i : Nat) : ∀ e ∈ els.set i v, e.cells.length = sz := by
  intro e he
  rcases List.mem_or_eq_of_mem_set he with h' | h'
  · exact h e h'
  · rw [h']; exact hv

theorem fillEls_sound {Γ : Gam} (ev : Ev) (ρ : Operand → Value) (sz : Nat) : ∀ (parts : List (Nat × Operand)) (gp : List (Nat × GArg)) (c : Array Value) (els els' : List GVal), (∀ e ∈ els, e.cells.length = sz) → ALike Γ c (flat els) →
    parts.length = gp.length → (∀ j (h1 : j < parts.length) (h2 : j < gp.length), parts[j].1 = gp[j].1 ∧ VRel Γ (ρ parts[j].2) (ev gp[j].2)) → gFillEls ev sz gp els = some els' →
    ∃ c', Instr.fill (fun i => some (i * sz, sz)) c (parts.map fun p => (p.1, ρ p.2)) = some c' ∧ ALike Γ c' (flat els') ∧ (∀ e ∈ els', e.cells.length = sz) ∧ els'.length = els.length := by
  intro parts
  induction parts with
  | nil =>
    intro gp c els els' hu h hl _ hf
    cases gp with
    | nil => simp only [gFillEls, Option.some.injEq] at hf; subst hf; exact ⟨c, rfl, h, hu, rfl⟩
    | cons => simp at hl
  | cons p parts ih =>
    intro gp c els els' hu h hl hp hf
    cases gp with
    | nil => simp at hl
    | cons g gp =>
      simp only [gFillEls] at hf
      cases hc : (notTup (ev g.2) && Nat.beq (ev g.2).cells.length sz && Nat.blt g.1 els.length) with
      | false => simp only [hc, cond_false, reduceCtorEq] at hf
      | true =>
        simp only [hc, cond_true, setAt_eq] at hf
        simp only [Bool.and_eq_true, beq_bool, blt_bool, decide_eq_true_eq] at hc
        obtain ⟨⟨hn, h1⟩, h2⟩ := hc
        obtain ⟨hpl, hr⟩ := hp 0 (by simp) (by simp)
        simp only [List.getElem_cons_zero] at hpl hr
        have hx := cells_alike hr hn
        have hsize : (ρ p.2).cells.size = sz := by rw [hx.size, h1]
        have hfl := flat_length hu
        have hle : g.1 * sz + sz ≤ els.length * sz := by
          have : (g.1 + 1) * sz ≤ els.length * sz := Nat.mul_le_mul_right _ h2
          rw [Nat.add_mul] at this; omega
        have hal := alike_spl h hx (g.1 * sz) (by rw [hfl, h1]; exact hle)
        rw [flat_set hu (ev g.2) h1 g.1 h2] at hal
        obtain ⟨c', hc', ha, hu', hle'⟩ := ih gp (spl c (g.1 * sz) (ρ p.2).cells.toList) (els.set g.1 (ev g.2)) els' (set_uniform hu _ h1 _) hal (by simpa using hl)
          (fun j a b => by have := hp (j + 1) (by simp; omega) (by simp; omega); simpa using this) hf
        refine ⟨c', ?_, ha, hu', by rw [hle']; simp⟩
        simp only [List.map_cons, Instr.fill, hpl]
        rw [if_neg (by simp only [hsize, Bool.or_eq_true, decide_eq_true_eq, not_or]; exact ⟨by simp, by rw [h.size, hfl]; omega⟩)]
        rw [array_foldl_spl]
        exact hc'

section
variable {base : Nat} {W0 : World} {Γ : Gam} {gh : GHeap} {w : World}

theorem imm_lt (h : WRel base W0 Γ gh w) {r o : Nat} {v : Value} (e : Γ.imm r o = some v) : r < w.heap.size := by
  have := h.immc r o v e
  rcases Nat.lt_or_ge r w.heap.size with h' | h'
  · exact h'
  · simp [World.cell?, Array.getElem?_eq_none h'] at this

theorem own_ne_new (h : WRel base W0 Γ gh w) : ∀ k b, gh.get k = some b → own Γ k b ≠ some w.heap.size := fun _ _ hk e => Nat.lt_irrefl _ (h.own_lt hk e).2

/-- The world with one block more. -/
abbrev newB (w : World) (o : Obj) : World := { w with heap := w.heap.push o }

theorem chg_newB (w : World) (o : Obj) : Chg w (newB w o) w.heap.size :=
  ⟨rfl, rfl, rfl, by simp, fun q hq => by
    show (w.heap.push o)[q]? = _
    rw [Array.getElem?_push, if_neg hq]⟩
theorem newB_at (w : World) (o : Obj) : (newB w o).heap[w.heap.size]? = some o := by
  show (w.heap.push o)[w.heap.size]? = _
  simp

theorem row_newB (w : World) (c : Array Value) (ty : TypeId) : RowAt (newB w (.cells c ty)) w.heap.size c :=
  ⟨⟨ty, (0, 0), newB_at w _⟩, fun j _ => by simp [World.frozen?]⟩

/-- A new block whose cells nobody will change. -/
theorem WRel.newImm (h : WRel base W0 Γ gh w) (c : Array Value) (ty : TypeId) :
    Γ.le (Γ.fix w.heap.size (fun j => c[j]?)) ∧ WRel base W0 (Γ.fix w.heap.size (fun j => c[j]?)) gh (newB w (.cells c ty)) :=
  h.adopt w.heap.size h.big (own_ne_new h) (chg_newB w _) (fun j => c[j]?) (fun o v e => absurd (imm_lt h e) (Nat.lt_irrefl _)) (fun o v e => by
    rw [(row_newB w c ty).cell]; exact e)

/-- A slice over fixed cells. -/
theorem vsl_of {Γ : Gam} {r o cap sz : Nat} {c : Array Value} {els : List GVal} {tok : Tok} (hu : ∀ e ∈ els, e.cells.length = sz) (hz : 0 < sz) (hal : ALike Γ c (flat els)) (hi : ∀ j, j < els.length * sz → Γ.imm r (o + j) = some (c.getD j undef))
    (hc : els.length ≤ cap) (ht : TokOk Γ r o els.length cap sz tok) : VRel Γ (.slice (some ⟨r, o, none⟩) els.length cap) (.vsl els tok) := by
  have hfl := flat_length hu
  have lt : ∀ i j, i < els.length → j < sz → i * sz + j < els.length * sz := fun i j hi hj => by
    have : (i + 1) * sz ≤ els.length * sz := Nat.mul_le_mul_right _ hi
    rw [Nat.add_mul] at this; omega
  refine .vsl r o cap sz els tok (fun i j => c.getD (i * sz + j) undef) hu hz (fun i j h1 h2 => hi _ (lt i j h1 h2)) (fun e he v hv => hal.one v ?_) (fun i hl j hj => ?_) hc ht
  · simp only [flat, List.mem_flatMap]; exact ⟨e, he, hv⟩
  · have hj' : j < sz := by rw [← hu _ (List.getElem_mem hl)]; exact hj
    have hg := flat_get hu i j hl hj'
    rw [List.getElem?_eq_getElem hj] at hg
    obtain ⟨x, hx, hr, _⟩ := hal.get hg
    rw [getD_eq, hx]; exact hr

theorem gEls_spec {C : GCfg} : ∀ (parts : List (Nat × Operand)) (gp : List (Nat × GArg)), gEls C parts = some gp → parts.length = gp.length ∧
    ∀ j (h1 : j < parts.length) (h2 : j < gp.length), parts[j].1 = gp[j].1 ∧ gArg C parts[j].2 = some gp[j].2 := by
  intro parts
  induction parts with
  | nil => intro gp h; simp only [gEls, Option.some.injEq] at h; subst h; exact ⟨rfl, fun j h1 => by simp at h1⟩
  | cons p parts ih =>
    intro gp h
    obtain ⟨i, x⟩ := p
    simp only [gEls] at h
    cases h2 : gArg C x with
    | none => simp [h2] at h
    | some g =>
      cases h3 : gEls C parts with
      | none => simp [h2, h3] at h
      | some r =>
        simp only [h2, h3, Option.some.injEq] at h; subst h
        obtain ⟨e, hr⟩ := ih r h3
        refine ⟨by simp [e], fun j hj hj' => ?_⟩
        cases j with
        | zero => exact ⟨rfl, h2⟩
        | succ j => simpa using hr j (by simpa using hj) (by simpa using hj')

/-- n elements that are nought. -/
theorem zeros_alike {Γ : Gam} {c : Array Value} {z : GVal} {sz : Nat} (hz : ALike Γ c z.cells) (hsz : z.cells.length = sz) (hp : 0 < sz) (n : Nat) :
    ALike Γ ((Array.range (n * sz)).map fun k => c[k % c.size]!) (flat (List.replicate n z)) := by
  have hu : ∀ e ∈ List.replicate n z, e.cells.length = sz := fun e he => by rw [List.eq_of_mem_replicate he]; exact hsz
  have hfl := flat_length hu
  simp only [List.length_replicate] at hfl
  refine ⟨by simp [hfl], fun v hv => ?_, fun j hj => ?_⟩
  · simp only [flat, List.mem_flatMap] at hv
    obtain ⟨e, he, hv⟩ := hv
    rw [List.eq_of_mem_replicate he] at hv
    exact hz.one v hv
  · rw [hfl] at hj
    have hi : j / sz < n := by rw [Nat.div_lt_iff_lt_mul hp]; exact hj
    have hm : j % sz < sz := Nat.mod_lt _ hp
    have hg := flat_get hu (j / sz) (j % sz) (by simpa using hi) hm
    rw [show j / sz * sz + j % sz = j by rw [Nat.mul_comm]; exact Nat.div_add_mod j sz] at hg
    simp only [List.getElem_replicate] at hg
    rw [List.getElem?_eq_getElem (by rw [hfl]; exact hj), List.getElem?_eq_getElem (by omega)] at hg
    have e := Option.some.inj hg
    rw [e]
    have := hz.at_ (j % sz) (by omega)
    have hcs : c.size = sz := by rw [hz.size, hsz]
    rw [getD_eq]
    simp only [Array.getElem?_map, Array.getElem?_range, hj, if_true, Option.map_some, Option.getD_some, hcs]
    rw [getD_eq] at this
    have hlt : j % sz < c.size := by omega
    simpa [hlt] using this

theorem buildSl_sound {P : Program} {C : GCfg} {a : Act} {ts : GFr} (hC : CfgOK P C Γ) (hA : ARel Γ a ts) (h : WRel base W0 Γ gh w) (t e : TypeId) (n m : Nat) (z : GVal) (parts : Array (Nat × Operand)) (gp : List (Nat × GArg))
    (hu : P.underlying t = some (.slice e)) (hz : zeroT P e = some z) (hs : sizeT P e = some m) (hm : n * m ≤ 2 ^ 20 ∧ m ≠ 0) (hp : gEls C parts.toList = some gp) (v : GVal) (hv : pBuildSl z m n gp (GArg.get ts) = some v) :
    ∃ x w' Γ', (Instr.buildSlice t n (parts.map fun (i, x) => (i, a.eval x))).run P w = .ok x w' ∧ Γ.le Γ' ∧ VRel Γ' x v ∧ WRel base W0 Γ' gh w' := by
  unfold pBuildSl at hv
  rw [beq_bool] at hv
  cases hcnd : (notTup z && decide (z.cells.length = m)) with
  | false => simp only [hcnd, cond_false, reduceCtorEq] at hv
  | true =>
    simp only [hcnd, cond_true] at hv
    simp only [Bool.and_eq_true, decide_eq_true_eq] at hcnd
    obtain ⟨hnt, hzl⟩ := hcnd
    cases hf : gFillEls (GArg.get ts) m gp (List.replicate n z) with
    | none => simp [hf] at hv
    | some l =>
      simp only [hf, Option.some.injEq] at hv; subst hv
      obtain ⟨zx, hzx, hcz⟩ := run_zero (P := P) w hz
      have hzr := constOf_rel zx z hcz Γ
      have hal := cells_alike hzr hnt
      have hal0 := zeros_alike hal hzl (by omega) n
      obtain ⟨el, hsp⟩ := gEls_spec parts.toList gp hp
      obtain ⟨c', hc', ha', hu', hlen⟩ := fillEls_sound (Γ := Γ) (GArg.get ts) a.eval m parts.toList gp _ (List.replicate n z) l (fun e he => by rw [List.eq_of_mem_replicate he]; exact hzl) hal0 el (fun j h1 h2 => by
        obtain ⟨e1, hg⟩ := hsp j h1 h2
        exact ⟨e1, arg_rel hC hA hg⟩) hf
      simp only [List.length_replicate] at hlen
      obtain ⟨hle, hW⟩ := h.newImm c' e
      have hvs := vsl_of (Γ := Γ.fix w.heap.size (fun j => c'[j]?)) (r := w.heap.size) (o := 0) (cap := l.length) (sz := m) (c := c') (els := l) (tok := .clip) hu' (by omega) (ha'.mono hle) (fun j hj => by
        rw [Gam.fix_imm, if_pos rfl, Nat.zero_add, getD_eq]
        have : j < c'.size := by rw [ha'.size, flat_length hu']; exact hj
        simp [this]) (Nat.le_refl _) rfl
      rw [hlen] at hvs
      refine ⟨_, _, _, ?_, hle, hvs, hW⟩
      unfold Instr.buildSlice
      have h24 : ¬ n * m > 2 ^ 24 := by omega
      simp only [Sem.run_bind, run_underlying hu, Result.andThen_ok, run_size w hs, Array.toList_map]
      rw [if_neg h24]
      have hc'' : Instr.fill (fun i => some (i * m, m)) ((Array.range (n * m)).map fun k => zx.cells[k % zx.cells.size]!) (parts.toList.map fun (i, x) => (i, a.eval x)) = some c' := hc'
      by_cases h0 : n * m = 0
      · rw [if_pos h0]
        rw [h0] at hc'' ⊢
        simp only [Sem.run_bind, Sem.run_pure, Result.andThen_ok]
        have e0 : ((Array.range 0).map fun x => (#[] : Array Value)[x % (#[] : Array Value).size]!) = (Array.range 0).map fun k => zx.cells[k % zx.cells.size]! := by simp
        rw [e0, hc'']
        simp [newRow, newB]
      · rw [if_neg h0]
        simp only [Sem.run_bind, hzx, Sem.run_pure, Result.andThen_ok]
        rw [hc'']
        simp [newRow, newB]
end
end Go.Gh

/-
  THE GHOST MACHINE, FOURTEENTH TEXT: operations that need no memory are what the ghost says.
  No claim is proved here.
-/
namespace Go.Gh

/-- An operation that yields a value (or nothing), and goes on. -/
def Yields (P : Program) (s : Sem Next) (w : World) (x : Value) (w' : World) : Prop := s.run P w = .ok (.value x) w' ∨ (s.run P w = .ok .skip w' ∧ x = undef)

theorem yields_v {P : Program} {s : Sem Value} {w w' : World} {x : Value} (h : s.run P w = .ok x w') : Yields P (do pure (.value (← s))) w x w' := .inl (by simp [h])

theorem getD_some {α : Type} {o : Option α} {x d : α} (h : o = some x) : o.getD d = x := by rw [h]; rfl

section
variable {base : Nat} {W0 : World} {P : Program} {C : GCfg} {Γ : Gam} {a : Act} {ts : GFr} {gh : GHeap} {w : World}

theorem argO_rel (hC : CfgOK P C Γ) (hA : ARel Γ a ts) {x : Option Operand} {g : Option GArg} (h : gArgO C x = some g) :
    (x.map a.eval = none ∧ g.map (GArg.get ts) = none) ∨ ∃ p q, x.map a.eval = some p ∧ g.map (GArg.get ts) = some q ∧ VRel Γ p q := by
  cases x with
  | none => simp only [gArgO, Option.some.injEq] at h; subst h; exact .inl ⟨rfl, rfl⟩
  | some x => simp only [gArgO, Option.map_eq_some_iff] at h; obtain ⟨q, hq, rfl⟩ := h; exact .inr ⟨_, _, rfl, rfl, arg_rel hC hA hq⟩

theorem argO_some {x : Option Operand} {g : Option GArg} (h : gArgO C x = some g) : x.isSome = g.isSome := by
  cases x with
  | none => simp only [gArgO, Option.some.injEq] at h; subst h; rfl
  | some x => simp only [gArgO, Option.map_eq_some_iff] at h; obtain ⟨q, hq, rfl⟩ := h; rfl

theorem mm_sound {Γ : Gam} (w : World) (mx : Bool) {x y : Value} {v u : GVal} (hx : VRel Γ x v) (hy : VRel Γ y u) (r : GVal) (h : mm mx v u = some r) (ats : Array TypeId) (ty : TypeId) :
    ∃ z, ((if mx then Builtin.max_ ats ty #[x, y] else Builtin.min_ ats ty #[x, y]) : Sem Value).run P w = .ok z w ∧ VRel Γ z r := by
  cases hx <;> simp only [mm, reduceCtorEq] at h
  case int k n =>
    cases hy <;> simp only [mm2, reduceCtorEq] at h
    case int l m =>
      cases hk : kindEq k l with
      | false => simp [hk] at h
      | true =>
        simp only [hk, cond_true, Option.some.injEq, ilt_eq] at h
        subst h
        cases mx
        · simp only [cond_false, Bool.false_eq_true, if_false]
          refine ⟨.int k (if m < n then m else n), by simp [Builtin.min_, Builtin.min2], ?_⟩
          by_cases hlt : m < n <;> simp only [hlt, decide_true, decide_false, cond_true, cond_false, if_true, if_false] <;> exact .int _ _
        · simp only [cond_true, if_true]
          refine ⟨.int k (if m > n then m else n), by simp [Builtin.max_, Builtin.max2], ?_⟩
          by_cases hlt : n < m <;> simp only [hlt, decide_true, decide_false, cond_true, cond_false, if_true, if_false] <;> exact .int _ _

theorem len_sound {Γ : Gam} (w : World) (t : TypeId) (str : Bool) (hu : if str then P.underlying t = some .string else ∃ e, P.underlying t = some (.slice e)) {x : Value} {v : GVal} (hx : VRel Γ x v) (hs : str = isStr v) (n : Nat) (h : lenOf v = some n)
    (ty : TypeId) (ats : Array TypeId) (ha : ats[0]? = some t) : (Builtin.len_ ats ty #[x]).run P w = .ok (.int .i64 n) w := by
  unfold Builtin.len_
  simp only [ha]
  cases str with
  | true =>
    simp only [if_true] at hu
    cases hx <;> simp only [lenOf, Option.some.injEq, reduceCtorEq] at h <;> simp only [isStr, reduceCtorEq] at hs
    case str s l hl => subst h; subst hl; simp [run_underlying hu, goInt]
  | false =>
    simp only [Bool.false_eq_true, if_false] at hu
    obtain ⟨e, hu⟩ := hu
    cases hx <;> simp only [lenOf, Option.some.injEq, reduceCtorEq] at h <;> simp only [isStr, reduceCtorEq] at hs
    case nils => subst h; simp [run_underlying hu, goInt]
    case vsl => subst h; simp [run_underlying hu, goInt]
    case hsl => subst h; simp [run_underlying hu, goInt]

/-- What 'nilCheck' lets through. -/
theorem nilChk_sound {Γ : Gam} {x : Value} {v r : GVal} (hx : VRel Γ x v) (h : nilChk v = some r) (x' : Operand) (ρ : Operand → Value) (hρ : ρ x' = x) (o : Oper) (ho : o.op = .nilCheck x') : (execOp ρ o).run P w = .ok (.value x) w ∧ r = v := by
  cases hx <;> simp only [nilChk, Option.some.injEq, reduceCtorEq] at h
  case ptr => subst h; simp [execOp, ho, hρ]
  case vptr => subst h; simp [execOp, ho, hρ]
  case iface => subst h; simp [execOp, ho, hρ]
  case func fn a c ga gc ea ec ha hc =>
    cases fn <;> simp only [Option.some.injEq, reduceCtorEq] at h
    case func f => subst h; simp [execOp, ho, hρ]

theorem WRel.newImm' (h : WRel base W0 Γ gh w) (w' : World) (c : Array Value) (hc : Chg w w' w.heap.size) (hr : ∀ o, w'.cell? ⟨w.heap.size, o, none⟩ = c[o]?) :
    Γ.le (Γ.fix w.heap.size (fun j => c[j]?)) ∧ WRel base W0 (Γ.fix w.heap.size (fun j => c[j]?)) gh w' :=
  h.adopt w.heap.size h.big (own_ne_new h) hc (fun j => c[j]?) (fun o v e => absurd (imm_lt h e) (Nat.lt_irrefl _)) (fun o v e => by rw [hr]; exact e)

theorem flat_strVals (l : List Nat) : flat (strVals l) = strVals l := by
  induction l with
  | nil => rfl
  | cons b l ih => simp only [strVals, List.map_cons, flat_cons] at ih ⊢; rw [ih]; rfl

theorem toBytes_sound (h : WRel base W0 Γ gh w) (src dst e : TypeId) (hs : P.underlying src = some .string) (hd : P.underlying dst = some (.slice e)) (he : P.underlying e = some (.int .u8)) {x : Value} {v : GVal} (hx : VRel Γ x v) (r : GVal) (hr : cvBytes v = some r) :
    ∃ z w' Γ', (convert src dst x).run P w = .ok z w' ∧ Γ.le Γ' ∧ VRel Γ' z r ∧ WRel base W0 Γ' gh w' := by
  cases hx <;> simp only [cvBytes, reduceCtorEq] at hr
  case str s l hl =>
    rw [ble_bool] at hr
    by_cases hm : l.length ≤ maxStr
    · simp only [hm, decide_true, cond_true, Option.some.injEq] at hr
      subst hr
      have hlen : l.length = s.size := by rw [← hl]; exact bts_length s
      have hrun := Go.Lib.run_convert_string_bytes (P := P) w src dst e s hs hd he
      have hchg : Chg w (Go.Lib.bytesWorld w e s) w.heap.size := by
        refine ⟨rfl, rfl, rfl, by rw [Go.Lib.bytesWorld_size]; omega, fun q hq => ?_⟩
        rcases Nat.lt_or_ge q w.heap.size with h1 | h1
        · exact Go.Lib.bytesWorld_at_old w e s q h1
        · rw [Array.getElem?_eq_none (by rw [Go.Lib.bytesWorld_size]; omega), Array.getElem?_eq_none (by omega)]
      obtain ⟨hle, hW⟩ := h.newImm' (Go.Lib.bytesWorld w e s) (Go.Lib.bytesCells w e s) hchg (fun o => by
        unfold World.cell?; simp only; rw [Go.Lib.bytesWorld_at_new]; simp)
      have hcap : s.size ≤ grownCap w s.size 0 e := Nat.le_add_right _ _
      have hu : ∀ v ∈ strVals l, v.cells.length = 1 := fun v hv => by
        simp only [strVals, List.mem_map] at hv; obtain ⟨b, _, rfl⟩ := hv; rfl
      have hget : ∀ j, j < l.length → (Go.Lib.bytesCells w e s)[j]? = some (.int .u8 (l[j]?.getD 0 : Nat)) := fun j hj => by
        have hjs : j < s.data.size := by rw [hlen] at hj; exact hj
        unfold Go.Lib.bytesCells
        rw [Array.getElem?_append_left (by simpa using hjs)]
        subst hl
        simp
        have e := Array.getElem?_eq_getElem hjs
        exact ⟨s.data[j], e, by rw [e]; rfl⟩
      have hvl : (strVals l).length = l.length := by simp [strVals]
      refine ⟨_, _, _, hrun, hle, ?_, hW⟩
      rw [← hlen, ← hvl]
      refine .vsl w.heap.size 0 _ 1 (strVals l) .none (fun i _ => .int .u8 (l[i]?.getD 0 : Nat)) hu (by omega) (fun i j hi hj => ?_) (fun v hv u huv => ?_) (fun i hi j hj => ?_) (by rw [hvl, hlen]; exact hcap) trivial
      · have : j = 0 := by omega
        subst this
        rw [Gam.fix_imm, if_pos rfl]
        simp only [Nat.zero_add, Nat.mul_one, Nat.add_zero]
        exact hget i (by omega)
      · simp only [strVals, List.mem_map] at hv; obtain ⟨b, _, rfl⟩ := hv
        simp only [GVal.cells, List.mem_singleton] at huv; subst huv; rfl
      · have e1 : (strVals l)[i] = .int .u8 (Int.ofNat (l[i]?.getD 0)) := by
          simp only [strVals, List.getElem_map]
          have : i < l.length := by omega
          simp [this]
        have e2 : (strVals l)[i].cells = [.int .u8 (Int.ofNat (l[i]?.getD 0))] := by rw [e1]; rfl
        have hj0 : j = 0 := by rw [e2] at hj; simpa using hj
        subst hj0
        simp only [e2, List.getElem_cons_zero]
        exact .int _ _
    · simp [hm] at hr
end
end Go.Gh

/-
  THE GHOST MACHINE, FIFTEENTH TEXT: each operation that needs no memory, put together.
  No claim is proved here.
-/
namespace Go.Gh

section
variable {base : Nat} {W0 : World} {P : Program} {C : GCfg} {Γ : Gam} {a : Act} {ts : GFr} {gh : GHeap} {w : World}

def POk (P : Program) (base : Nat) (W0 : World) (Γ : Gam) (gh : GHeap) (w : World) (s : Sem Next) (v : GVal) : Prop :=
  ∃ x w' Γ', Γ.le Γ' ∧ Yields P s w x w' ∧ VRel Γ' x v ∧ WRel base W0 Γ' gh w'

theorem POk.ret (h : WRel base W0 Γ gh w) {s : Sem Next} {x : Value} {v : GVal} (hs : s.run P w = .ok (.value x) w) (hv : VRel Γ x v) : POk P base W0 Γ gh w s v :=
  ⟨x, w, Γ, Gam.le_refl _, .inl hs, hv, h⟩
theorem POk.val (h : WRel base W0 Γ gh w) {s : Sem Value} {v : GVal} (hs : ∃ x, s.run P w = .ok x w ∧ VRel Γ x v) : POk P base W0 Γ gh w (do pure (.value (← s))) v := by
  obtain ⟨x, hx, hv⟩ := hs
  exact ⟨x, w, Γ, Gam.le_refl _, yields_v hx, hv, h⟩
theorem POk.mem {s : Sem Value} {v : GVal} (hs : ∃ x w' Γ', s.run P w = .ok x w' ∧ Γ.le Γ' ∧ VRel Γ' x v ∧ WRel base W0 Γ' gh w') : POk P base W0 Γ gh w (do pure (.value (← s))) v := by
  obtain ⟨x, w', Γ', hx, hl, hv, hW⟩ := hs
  exact ⟨x, w', Γ', hl, yields_v hx, hv, hW⟩

theorem mkFunc_rel (hC : CfgOK P C Γ) (hA : ARel Γ a ts) (fn : Fn) (f c : Array Operand) (gf gc : List GArg) (h1 : gArgs C f.toList = some gf) (h2 : gArgs C c.toList = some gc) :
    VRel Γ (.func fn (f.map a.eval) (c.map a.eval)) (.func fn (gf.map (GArg.get ts)) (gc.map (GArg.get ts))) := by
  obtain ⟨e1, r1⟩ := args_rel hC hA h1
  obtain ⟨e2, r2⟩ := args_rel hC hA h2
  refine .func fn _ _ _ _ (by simpa using e1) (by simpa using e2) (fun i hi => ?_) (fun i hi => ?_)
  · simp only [List.length_map] at hi
    have hi' : i < f.size := by simpa using (e1 ▸ hi : i < f.toList.length)
    have := r1 i (by simpa using hi') hi
    rw [getD_eq]
    simp only [Array.getElem?_map, hi', Array.getElem?_eq_getElem, Option.map_some, Option.getD_some, List.getElem_map]
    simpa using this
  · simp only [List.length_map] at hi
    have hi' : i < c.size := by simpa using (e2 ▸ hi : i < c.toList.length)
    have := r2 i (by simpa using hi') hi
    rw [getD_eq]
    simp only [Array.getElem?_map, hi', Array.getElem?_eq_getElem, Option.map_some, Option.getD_some, List.getElem_map]
    simpa using this

theorem eqKind_fits (hC : CfgOK P C Γ) (t : TypeId) (k k' : GEq) (h : eqKind P t = some k) (hk : k' = k ∨ (k = .iface ∧ k' = .ifaceV C.ints)) : EqFits P t k' := by
  unfold eqKind at h
  split at h <;> try (cases h; done)
  · cases h; rcases hk with rfl | ⟨h, _⟩
    · assumption
    · cases h
  · rename_i e hu
    split at h
    · split at h
      · cases h
      · cases h; rcases hk with rfl | ⟨h, _⟩
        · exact ⟨e, hu⟩
        · cases h
    · cases h
  · rename_i e hu; cases h; rcases hk with rfl | ⟨h, _⟩
    · exact ⟨_, hu⟩
    · cases h
  · rename_i hu; cases h; rcases hk with rfl | ⟨h, _⟩
    · exact ⟨_, _, _, hu⟩
    · cases h
  · rename_i hu; cases h; rcases hk with rfl | ⟨h, _⟩
    · exact ⟨_, _, hu⟩
    · cases h
  · rename_i ms hu
    split at h
    · cases h
    · cases h; rcases hk with rfl | ⟨_, rfl⟩
      · exact ⟨_, hu⟩
      · exact ⟨⟨_, hu⟩, hC.2.1⟩

/-- '==' or '!='. -/
theorem eqOp_sound (hC : CfgOK P C Γ) (hA : ARel Γ a ts) (w : World) (neg : Bool) (t : TypeId) (xo yo : Operand) (ga gb : GArg) (h1 : gArg C xo = some ga) (h2 : gArg C yo = some gb) (g : POp)
    (hg : gEqOf P C neg t xo yo ga gb = some (.p g))
    (v : GVal) (hv : gPure g (GArg.get ts) = some v) :
    ∃ z, (do eqGuard (if neg then .neq else .eql) t xo yo (a.eval xo) (a.eval yo); binOp (if neg then .neq else .eql) t (a.eval xo) (a.eval yo) : Sem Value).run P w = .ok z w ∧ VRel Γ z v := by
  have r1 := arg_rel hC hA h1
  have r2 := arg_rel hC hA h2
  have key : ∀ k, eqKind P t ≠ none → (eqKind P t = some k ∨ (eqKind P t = some .iface ∧ k = .ifaceV C.ints)) → (k = .iface → isConstNil xo = true ∨ isConstNil yo = true) → pEq neg k ga gb (GArg.get ts) = some v →
      ∃ z, (do eqGuard (if neg then .neq else .eql) t xo yo (a.eval xo) (a.eval yo); binOp (if neg then .neq else .eql) t (a.eval xo) (a.eval yo) : Sem Value).run P w = .ok z w ∧ VRel Γ z v := by
    intro k _ hk hcn hp
    unfold pEq at hp
    cases he : gEq k (ga.get ts) (gb.get ts) with
    | none => simp [he] at hp
    | some b =>
      simp only [he, Option.some.injEq] at hp
      have hf : EqFits P t k := by
        rcases hk with hk | ⟨hk, rfl⟩
        · exact eqKind_fits hC t k k hk (.inl rfl)
        · exact eqKind_fits hC t .iface _ hk (.inr ⟨rfl, rfl⟩)
      have := gEq_sound (P := P) w neg t xo yo k hf hcn r1 r2 b he
      refine ⟨_, this, ?_⟩
      rw [← hp]
      cases neg <;> exact .bool _
  unfold gEqOf at hg
  split at hg
  · cases hg
    exact gBin_sound (P := P) w (if neg then .neq else .eql) t xo yo r1 r2 v hv
  · split at hg
    · rename_i hk
      cases hg
      by_cases hcn : (isConstNil xo || isConstNil yo) = true
      · rw [if_pos hcn] at hv
        exact key .iface (by simp [hk]) (.inl hk) (fun _ => by simpa using hcn) hv
      · rw [if_neg hcn] at hv
        exact key (.ifaceV C.ints) (by simp [hk]) (.inr ⟨hk, rfl⟩) (fun e => by cases e) hv
    · rename_i k hk hne
      cases hg
      refine key k (by simp [hne]) (.inl hne) (fun e => ?_) hv
      subst e; exact absurd rfl hk
    · cases hg

theorem field_sound (hC : CfgOK P C Γ) (hA : ARel Γ a ts) (w : World) (s : TypeId) (fs : Array Field) (f : Field) (i n : Nat) (g : Bool) (hu : P.underlying s = some (.struct fs)) (hf : fs[i]? = some f) (hs : sizeT P f.type = some n) (hg : aggT P f.type = some g)
    (x : Operand) (gx : GArg) (hx : gArg C x = some gx) (v : GVal) (hv : aggPart f.offset n g (gx.get ts) = some v) : ∃ z, (Instr.field s (a.eval x) i).run P w = .ok z w ∧ VRel Γ z v := by
  have hr := arg_rel hC hA hx
  generalize hgv : gx.get ts = gv at hv hr
  generalize hxv : a.eval x = xv at hr
  cases hr <;> simp only [aggPart, reduceCtorEq] at hv
  case agg cs gs e h1 h =>
    obtain ⟨z, hz, hr⟩ := gPart_sound (P := P) w ⟨e, h1, h⟩ f.type n f.offset g hs hg v hv
    refine ⟨z, ?_, hr⟩
    simp only [Instr.field, Sem.run_bind, run_underlying hu, Result.andThen_ok, hf, asAgg, Sem.run_pure]
    exact hz

theorem fieldAddr_sound (hC : CfgOK P C Γ) (hA : ARel Γ a ts) (w : World) (s : TypeId) (fs : Array Field) (f : Field) (i n : Nat) (hu : P.underlying s = some (.struct fs)) (hf : fs[i]? = some f) (hs : sizeT P f.type = some n) (hn : n ≠ 0)
    (x : Operand) (gx : GArg) (hx : gArg C x = some gx) (v : GVal) (hv : fieldA f.offset (gx.get ts) = some v) : ∃ z, (Instr.fieldAt s (a.eval x) i).run P w = .ok z w ∧ VRel Γ z v := by
  have hr := arg_rel hC hA hx
  generalize hgv : gx.get ts = gv at hv hr
  generalize hxv : a.eval x = xv at hr
  have run : ∀ ad : Addr, (Instr.fieldAt s (.pointer (some ad)) i).run P w = .ok (.pointer (some (ad.add f.offset))) w := fun ad => by
    simp [Instr.fieldAt, run_underlying hu, hf, Instr.sureAddr, fieldPlace, run_size w hs, hn]
  cases hr <;> simp only [fieldA, Option.some.injEq, reduceCtorEq] at hv
  case ptr k r o m off hl =>
    subst hv
    refine ⟨_, run _, ?_⟩
    rw [add_off, Nat.add_assoc]; exact .ptr k r o m (off + f.offset) hl
  case vptr r o off el g hi h1 h =>
    subst hv
    refine ⟨_, run _, ?_⟩
    rw [add_off, Nat.add_assoc]; exact .vptr r o (off + f.offset) el g hi h1 h

theorem extract_sound (hC : CfgOK P C Γ) (hA : ARel Γ a ts) (w : World) (i : Nat) (x : Operand) (gx : GArg) (hx : gArg C x = some gx) (v : GVal) (hv : extr i (gx.get ts) = some v) : ∃ z, (Instr.extract (a.eval x) i).run P w = .ok z w ∧ VRel Γ z v := by
  have hr := arg_rel hC hA hx
  generalize hgv : gx.get ts = gv at hv hr
  generalize hxv : a.eval x = xv at hr
  cases hr <;> simp only [extr, reduceCtorEq] at hv
  case tuple cs gs e h =>
    rw [nth_eq] at hv
    have hi : i < gs.length := by
      rcases Nat.lt_or_ge i gs.length with h' | h'
      · exact h'
      · simp [List.getElem?_eq_none h'] at hv
    rw [List.getElem?_eq_getElem hi] at hv; cases hv
    have hi' : i < cs.size := by rw [e]; exact hi
    have := h i hi
    rw [getD_eq, Array.getElem?_eq_getElem hi'] at this
    exact ⟨cs[i], by simp [Instr.extract, hi'], this⟩

theorem cx_sound (w : World) {x : Value} {v : GVal} (hx : VRel Γ x v) (r : GVal) (ats : Array TypeId) (ty : TypeId) :
    (cxReal v = some r → ∃ z, (Builtin.real_ ats ty #[x]).run P w = .ok z w ∧ VRel Γ z r) ∧ (cxImag v = some r → ∃ z, (Builtin.imag_ ats ty #[x]).run P w = .ok z w ∧ VRel Γ z r) := by
  constructor
  · intro h; cases hx <;> simp only [cxReal, Option.some.injEq, reduceCtorEq] at h
    subst h; exact ⟨_, rfl, .float _ _⟩
  · intro h; cases hx <;> simp only [cxImag, Option.some.injEq, reduceCtorEq] at h
    subst h; exact ⟨_, rfl, .float _ _⟩

theorem cxMk_sound (w : World) {x y : Value} {v u : GVal} (hx : VRel Γ x v) (hy : VRel Γ y u) (r : GVal) (ats : Array TypeId) (ty : TypeId) (h : cxMk v u = some r) : ∃ z, (Builtin.complex_ ats ty #[x, y]).run P w = .ok z w ∧ VRel Γ z r := by
  cases hx <;> simp only [cxMk, reduceCtorEq] at h
  case float k b =>
    cases hy <;> simp only [cxMk2, reduceCtorEq] at h
    case float l c =>
      cases hk : fkindEq k l with
      | false => simp [hk] at h
      | true =>
        simp only [hk, cond_true, Option.some.injEq] at h
        have := fkindEq_iff.1 hk; subst this; subst h
        refine ⟨.complex k b c, ?_, .complex _ _ _⟩
        show (if k = k then pure (.complex k b c) else stuck "complex: parts of different kinds" : Sem Value).run P w = _
        rw [if_pos rfl]; rfl
end
end Go.Gh

/-
  THE GHOST MACHINE, SIXTEENTH TEXT: every operation that needs no memory.
  No claim is proved here.
-/
namespace Go.Gh

section
variable {base : Nat} {W0 : World} {P : Program} {C : GCfg} {Γ : Gam} {a : Act} {ts : GFr} {gh : GHeap} {w : World}

theorem builtin_p_sound (hC : CfgOK P C Γ) (hA : ARel Γ a ts) (h : WRel base W0 Γ gh w) (i : Nat) (b : Builtin) (ats : Array TypeId) (args : Array Operand) (gargs : List GArg) (hargs : gArgs C args.toList = some gargs) (g : POp)
    (hg : gBuiltin P C i b ats.toList gargs = some (.p g)) (v : GVal) (hv : gPure g (GArg.get ts) = some v) (ty : TypeId) (consts : Array Bool) : POk P base W0 Γ gh w (builtin b ats ty consts (args.map a.eval)) v := by
  obtain ⟨el, hr⟩ := args_rel hC hA hargs
  have one : ∀ x, gargs = [x] → ∃ y, args.map a.eval = #[a.eval y] ∧ VRel Γ (a.eval y) (x.get ts) := by
    intro x e; subst e
    obtain ⟨l⟩ := args
    match l, el with
    | [y], _ => exact ⟨y, by simp, by simpa using hr 0 (by simp) (by simp)⟩
  have two : ∀ x y, gargs = [x, y] → ∃ p q, args.map a.eval = #[a.eval p, a.eval q] ∧ VRel Γ (a.eval p) (x.get ts) ∧ VRel Γ (a.eval q) (y.get ts) := by
    intro x y e; subst e
    obtain ⟨l⟩ := args
    match l, el with
    | [p, q], _ => exact ⟨p, q, by simp, by simpa using hr 0 (by simp) (by simp), by simpa using hr 1 (by simp) (by simp)⟩
  have at0 : ∀ t rest, ats.toList = t :: rest → ats[0]? = some t := by
    intro t rest e; obtain ⟨l⟩ := ats; simp only at e; subst e; rfl
  unfold gBuiltin at hg
  split at hg
  · -- append
    split at hg <;> try (cases hg; done)
    split at hg <;> try (cases hg; done)
    split at hg <;> cases hg
  · -- len
    rename_i t rest x ht
    obtain ⟨y, hay, hy⟩ := one _ rfl
    rw [hay]
    have ha := at0 _ _ ht
    split at hg
    · rename_i hu; cases hg
      simp only [gPure, pLen] at hv
      cases hs : (true == isStr (x.get ts)) with
      | false => simp [hs] at hv
      | true =>
        simp only [hs, cond_true] at hv
        cases hl : lenOf (x.get ts) with
        | none => simp [hl] at hv
        | some n =>
          simp only [hl, Option.some.injEq] at hv; subst hv
          exact POk.val h ⟨_, len_sound (P := P) w t true (by simpa using hu) hy (by simpa using hs) n hl ty ats ha, .int _ _⟩
    · rename_i e hu; cases hg
      simp only [gPure, pLen] at hv
      cases hs : (false == isStr (x.get ts)) with
      | false => simp [hs] at hv
      | true =>
        simp only [hs, cond_true] at hv
        cases hl : lenOf (x.get ts) with
        | none => simp [hl] at hv
        | some n =>
          simp only [hl, Option.some.injEq] at hv; subst hv
          exact POk.val h ⟨_, len_sound (P := P) w t false (by simpa using ⟨e, hu⟩) hy (by simpa using hs) n hl ty ats ha, .int _ _⟩
    · rename_i n e hu; cases hg
      simp only [gPure, pLenArr, Option.some.injEq] at hv; subst hv
      refine POk.val h ⟨.int .i64 n, ?_, .int _ _⟩
      show (Builtin.len_ ats ty #[a.eval y]).run P w = _
      unfold Builtin.len_; simp [ha, run_underlying hu, goInt]
    · rename_i ar hu
      split at hg
      · rename_i n e hu2; cases hg
        simp only [gPure, pLenArr, Option.some.injEq] at hv; subst hv
        refine POk.val h ⟨.int .i64 n, ?_, .int _ _⟩
        show (Builtin.len_ ats ty #[a.eval y]).run P w = _
        unfold Builtin.len_; simp [ha, run_underlying hu, run_underlying hu2, goInt]
      · cases hg
    · cases hg
    · cases hg
  · rename_i x y _; cases hg
    obtain ⟨p, q, hay, hp, hq⟩ := two _ _ rfl
    rw [hay]
    simp only [gPure, pMinmax] at hv
    obtain ⟨z, hz, hzr⟩ := mm_sound (P := P) w true hp hq v hv ats ty
    exact POk.val h ⟨z, hz, hzr⟩
  · rename_i x y _; cases hg
    obtain ⟨p, q, hay, hp, hq⟩ := two _ _ rfl
    rw [hay]
    simp only [gPure, pMinmax] at hv
    obtain ⟨z, hz, hzr⟩ := mm_sound (P := P) w false hp hq v hv ats ty
    exact POk.val h ⟨z, hz, hzr⟩
  · rename_i x _; cases hg
    obtain ⟨y, hay, hy⟩ := one _ rfl
    rw [hay]
    exact POk.val h ((cx_sound (P := P) w hy v ats ty).1 hv)
  · rename_i x _; cases hg
    obtain ⟨y, hay, hy⟩ := one _ rfl
    rw [hay]
    exact POk.val h ((cx_sound (P := P) w hy v ats ty).2 hv)
  · rename_i x y _; cases hg
    obtain ⟨p, q, hay, hp, hq⟩ := two _ _ rfl
    rw [hay]
    exact POk.val h (cxMk_sound (P := P) w hp hq v ats ty hv)
  · cases hg

theorem pure_sound (hC : CfgOK P C Γ) (hA : ARel Γ a ts) (h : WRel base W0 Γ gh w) (i : Nat) (o : Oper) (g : POp) (hg : gOpOf P C i o = some (.p g)) (v : GVal) (hv : gPure g (GArg.get ts) = some v) :
    POk P base W0 Γ gh w (execOp a.eval o) v := by
  obtain ⟨dst, op, type, pos, after, guard⟩ := o
  have A : ∀ {x : Operand} {gx : GArg}, gArg C x = some gx → VRel Γ (a.eval x) (gx.get ts) := fun hx => arg_rel hC hA hx
  unfold gOpOf at hg
  simp only at hg
  split at hg
  case h_1 x =>
    simp only [Option.map_eq_some_iff] at hg; obtain ⟨gx, hx, e⟩ := hg; cases e
    simp only [gPure, pMove, Option.some.injEq] at hv; subst hv
    exact POk.ret h (by simp [execOp]) (A hx)
  case h_2 x =>
    simp only [Option.map_eq_some_iff] at hg; obtain ⟨gx, hx, e⟩ := hg; cases e
    simp only [gPure, pMove, Option.some.injEq] at hv; subst hv
    exact POk.ret h (by simp [execOp]) (A hx)
  case h_3 c x y =>
    cases hc : gArg C c with
    | none => simp [hc] at hg
    | some gc =>
      cases hx : gArg C x with
      | none => simp [hc, hx] at hg
      | some gx =>
        cases hy : gArg C y with
        | none => simp [hc, hx, hy] at hg
        | some gy =>
          simp only [hc, hx, hy, Option.some.injEq, GOp.p.injEq] at hg; subst hg
          simp only [gPure, pPick] at hv
          have hrc := A hc
          generalize hgc : gc.get ts = vc at hv hrc
          generalize hec : a.eval c = xc at hrc
          cases hrc <;> simp only [pickB, Option.some.injEq, reduceCtorEq] at hv
          case bool b =>
            subst hv
            cases b
            · exact POk.ret h (by simp [execOp, hec, asBool]) (A hy)
            · exact POk.ret h (by simp [execOp, hec, asBool]) (A hx)
  case h_4 e =>
    split at hg
    · split at hg <;> cases hg
    · cases hg
  case h_5 e x =>
    split at hg <;> cases hg
  case h_6 t parts =>
    split at hg
    · rename_i fs z hu hz
      split at hg
      · rename_i hall
        simp only [Option.map_eq_some_iff] at hg; obtain ⟨gp, hp, e⟩ := hg; cases e
        exact POk.val h (build_struct_sound hC hA w t fs z parts gp hu hz hall hp v hv)
      · cases hg
    · rename_i m e z hu hz
      split at hg
      · rename_i n hs
        simp only [Option.map_eq_some_iff] at hg; obtain ⟨gp, hp, e⟩ := hg; cases e
        exact POk.val h (build_array_sound hC hA w t _ m n z parts gp hu hz hs hp v hv)
      · cases hg
    · cases hg
  case h_7 t n parts =>
    split at hg
    · rename_i e hu
      split at hg
      · rename_i z m ps hz hs hp
        split at hg
        · rename_i hm
          cases hg
          exact POk.mem (buildSl_sound hC hA h t e n m z parts ps hu hz hs hm hp v hv)
        · cases hg
      · cases hg
    · cases hg
  case h_8 t x => split at hg <;> cases hg
  case h_9 t x y => split at hg <;> cases hg
  case h_10 x =>
    simp only [Option.map_eq_some_iff] at hg; obtain ⟨gx, hx, e⟩ := hg; cases e
    simp only [gPure, pNilCheck] at hv
    obtain ⟨hr, e⟩ := nilChk_sound (P := P) (w := w) (A hx) hv x a.eval rfl ⟨dst, .nilCheck x, type, pos, after, guard⟩ rfl
    subst e
    exact POk.ret h hr (A hx)
  case h_11 bop t x y yt =>
    split at hg
    · rename_i gx gy hx hy
      split at hg
      · exact POk.val h (eqOp_sound hC hA w false t x y gx gy hx hy g hg v hv)
      · exact POk.val h (eqOp_sound hC hA w true t x y gx gy hx hy g hg v hv)
      · cases hg
        exact POk.val h (gBin_sound (P := P) w _ t x y (A hx) (A hy) v hv)
    · cases hg
  case h_12 uop t x =>
    simp only [Option.map_eq_some_iff] at hg; obtain ⟨gx, hx, e⟩ := hg; cases e
    exact POk.val h (gUn_sound (P := P) w uop (A hx) v hv)
  case h_13 s d x =>
    split at hg
    · rename_i s' k gx hs hd hx; cases hg
      exact POk.val h (cvInt_sound (P := P) w s d k s' hs hd (A hx) v hv)
    · rename_i s' k gx hs hd hx; cases hg
      exact POk.val h (cvFloat_sound (P := P) w s d s' k hs hd (A hx) v hv)
    · rename_i s' gx hs hd hx; cases hg
      exact POk.val h (cvRune_sound (P := P) w s d s' hs hd (A hx) v hv)
    · rename_i gx hs hd hx; cases hg
      exact POk.val h (cvSame_sound (P := P) w s d hs hd (A hx) v hv)
    · rename_i e gx hs hd hx
      split at hg
      · rename_i he; cases hg
        exact POk.mem (toBytes_sound h s d e hs hd he (A hx) v hv)
      · cases hg
    · rename_i e gx hs hd hx
      split at hg <;> cases hg
    · cases hg
  case h_14 t x =>
    split at hg
    · cases hg
    · rename_i d gx hne hd hx; cases hg
      simp only [gPure, pMkIface, Option.some.injEq] at hv; subst hv
      refine POk.val h ⟨.iface t (a.eval x), ?_, .iface _ _ _ (A hx)⟩
      unfold Instr.makeInterface
      rw [Sem.run_bind, run_underlying hd]
      cases d <;> first | rfl | exact absurd rfl (hne _)
    · cases hg
  case h_15 fn f c =>
    split at hg
    · rename_i gf gc h1 h2; cases hg
      simp only [gPure, pMkFunc, Option.some.injEq] at hv; subst hv
      exact POk.val h ⟨_, rfl, mkFunc_rel hC hA fn f c gf gc h1 h2⟩
    · cases hg
  case h_16 t => cases hg
  case h_17 t l c =>
    split at hg
    · split at hg
      · split at hg <;> cases hg
      · cases hg
    · cases hg
  case h_18 s x i =>
    split at hg
    · rename_i fs gx hu hx
      split at hg
      · rename_i f hf
        split at hg
        · rename_i n hs
          split at hg
          · cases hg
          · rename_i hn; cases hg
            exact POk.val h (fieldAddr_sound hC hA w s fs f i n hu hf hs hn x gx hx v hv)
        · cases hg
      · cases hg
    · cases hg
  case h_19 s x i =>
    split at hg
    · rename_i fs gx hu hx
      split at hg
      · rename_i f hf
        split at hg
        · rename_i n g' hs hgg; cases hg
          exact POk.val h (field_sound hC hA w s fs f i n g' hu hf hs hgg x gx hx v hv)
        · cases hg
      · cases hg
    · cases hg
  case h_20 t x ix =>
    split at hg
    · rename_i e gx gi hu hx hi
      simp only [Option.map_eq_some_iff] at hg; obtain ⟨n, hs, e'⟩ := hg; cases e'
      exact POk.val h (ixS_sound (P := P) w t e n hu hs (A hx) (A hi) v hv)
    · rename_i m e gx gi hu hx hi
      simp only [Option.map_eq_some_iff] at hg; obtain ⟨n, hs, e'⟩ := hg; cases e'
      exact POk.val h (ixA_sound (P := P) w t e n m hu hs (A hx) (A hi) v hv)
    · cases hg
  case h_21 t x ix =>
    split at hg
    · rename_i gx gi hu hx hi; cases hg
      exact POk.val h (ixStr_sound (P := P) w t hu (A hx) (A hi) v hv)
    · rename_i m e gx gi hu hx hi
      split at hg
      · rename_i n g' hs hgg; cases hg
        exact POk.val h (ixArr_sound (P := P) w t e n m g' hu hs hgg (A hx) (A hi) v hv)
      · cases hg
    · cases hg
  case h_22 t x lo hi mx =>
    split at hg
    · rename_i gx glo ghi hu hx hlo hhi hmx; cases hg
      simp only [gPure, pSliceStr] at hv
      cases hst : isStr (gx.get ts) with
      | false => simp [hst] at hv
      | true =>
        simp only [hst, cond_true] at hv
        have hmn : mx = none := by cases mx with | none => rfl | some m => simp [gArgO] at hmx
        subst hmn
        obtain ⟨z, hz, hr⟩ := sliceStr_sound (P := P) w t hu (A hx) hst (lo.map a.eval) (hi.map a.eval) (glo.map (GArg.get ts)) (ghi.map (GArg.get ts)) (argO_rel hC hA hlo) (argO_rel hC hA hhi) v hv
        refine POk.val h ⟨z, ?_, hr⟩
        show (Instr.sliceAt t (a.eval x) _ _ _).run P w = _
        unfold Instr.sliceAt
        rw [Sem.run_bind, run_underlying hu]
        exact hz
    · rename_i e gx glo ghi gmx hu hx hlo hhi hmx
      split at hg
      · cases hg
      rename_i hmm
      simp only [Option.map_eq_some_iff] at hg; obtain ⟨n, hs, e'⟩ := hg; cases e'
      simp only [gPure, pSliceSl] at hv
      cases hst : isStr (gx.get ts) with
      | true => simp [hst] at hv
      | false =>
        simp only [hst, cond_false] at hv
        have hsm : mx.isSome = true → hi.isSome = true := by
          rw [argO_some hmx, argO_some hhi]
          simp only [Bool.and_eq_true, Bool.not_eq_true', not_and, Bool.not_eq_false] at hmm
          exact hmm
        obtain ⟨z, hz, hr⟩ := slice_sound (P := P) w t e n hu hs (A hx) hst (lo.map a.eval) (hi.map a.eval) (mx.map a.eval) (glo.map (GArg.get ts)) (ghi.map (GArg.get ts)) (gmx.map (GArg.get ts)) (argO_rel hC hA hlo) (argO_rel hC hA hhi) (argO_rel hC hA hmx) (by simpa using hsm) v hv
        refine POk.val h ⟨z, ?_, hr⟩
        show (Instr.sliceAt t (a.eval x) _ _ _).run P w = _
        unfold Instr.sliceAt
        rw [Sem.run_bind, run_underlying hu]
        exact hz
    · cases hg
  case h_23 t x ix ok =>
    split at hg
    · split at hg <;> cases hg
    · cases hg
  case h_24 t m k x =>
    split at hg
    · split at hg <;> cases hg
    · cases hg
  case h_25 x ix =>
    simp only [Option.map_eq_some_iff] at hg; obtain ⟨gx, hx, e⟩ := hg; cases e
    exact POk.val h (extract_sound hC hA w ix x gx hx v hv)
  case h_26 c =>
    split at hg
    · cases hg
    · rename_i gargs hargs
      split at hg
      · rename_i b hcal
        have := builtin_p_sound hC hA h i b c.argTypes c.args gargs hargs g hg v hv type (c.args.map fun | .const _ => true | _ => false)
        have e : execOp a.eval ⟨dst, .call c, type, pos, after, guard⟩ = builtin b c.argTypes type (c.args.map fun | .const _ => true | _ => false) (c.args.map a.eval) := by
          simp [execOp, resolve, hcal, invoke]
          rfl
        rw [e]; exact this
      · split at hg
        · simp only [Option.map_eq_some_iff] at hg; obtain ⟨gx, hx, e⟩ := hg; cases e
        · cases hg
      · cases hg
      · simp only [Option.map_eq_some_iff] at hg; obtain ⟨gx, hx, e⟩ := hg; cases e
  case h_27 => cases hg
end
end Go.Gh

/-
  THE GHOST MACHINE, SEVENTEENTH TEXT: operations that read memory.
  No claim is proved here.
-/
namespace Go.Gh

theorem eqScalar_now {Γ : Gam} {x y : Value} {k l : GVal} (hx : VRel Γ x k) (hy : VRel Γ y l) (str : Bool) (hk : keyOk str k = true) (d : TypeDesc) (hd : if str then d = .string else ∃ q, d = .int q) (b : Bool) (h : eqScalar k l = some b) :
    Instr.sameNow d x y = some b := by
  cases hx <;> simp only [keyOk, Bool.false_eq_true] at hk
  case int q n =>
    have : str = false := by simpa using hk
    subst this
    simp only [Bool.false_eq_true, if_false] at hd
    obtain ⟨q', rfl⟩ := hd
    simp only [eqScalar] at h
    cases hy <;> simp only [eqInt, reduceCtorEq] at h
    case int q2 m =>
      cases hq : kindEq q q2 with
      | false => simp [hq] at h
      | true =>
        simp only [hq, cond_true, Option.some.injEq, ieq_eq] at h
        have := kindEq_of hq; subst this
        simp [Instr.sameNow, h]
  case str s p hs =>
    subst hk
    simp only [if_true] at hd
    subst hd
    simp only [eqScalar] at h
    cases hy <;> simp only [eqStr, Option.some.injEq, reduceCtorEq] at h
    case str s' p' hs' =>
      have e1 : natsSame (bts s) (bts s') = b := by unfold bts; rw [hs, hs']; exact h
      rw [natsSame_bts] at e1
      subst e1
      simp only [Instr.sameNow]
      rw [beq_toListBytes]

/-- Looking a key up in the entries. -/
theorem gFind_sound {Γ : Gam} {x : Value} {k : GVal} (hx : VRel Γ x k) (str : Bool) (hk : keyOk str k = true) (d : TypeDesc) (hd : if str then d = .string else ∃ q, d = .int q) : ∀ (es : List MapEntry) (gs : List (GVal × GVal)) (i : Nat) (r : Option GVal),
    es.length = gs.length → (∀ j (h1 : j < es.length) (h2 : j < gs.length), VRel Γ es[j].key gs[j].1 ∧ VRel Γ es[j].val gs[j].2) → gFind k gs = some r →
    (r = none ∧ Instr.findNow d x es i = some none) ∨ ∃ j y v, r = some v ∧ Instr.findNow d x es i = some (some (j, y)) ∧ VRel Γ y v := by
  intro es
  induction es with
  | nil =>
    intro gs i r hl _ h
    cases gs with
    | nil => simp only [gFind, Option.some.injEq] at h; exact .inl ⟨h.symm, rfl⟩
    | cons => simp at hl
  | cons e es ih =>
    intro gs i r hl hr h
    cases gs with
    | nil => simp at hl
    | cons g gs =>
      simp only [gFind] at h
      obtain ⟨h1, h2⟩ := hr 0 (by simp) (by simp)
      simp only [List.getElem_cons_zero] at h1 h2
      cases hq : eqScalar k g.1 with
      | none => simp [hq] at h
      | some b =>
        simp only [hq] at h
        have hn := eqScalar_now hx h1 str hk d hd b hq
        cases b with
        | true =>
          simp only [cond_true, Option.some.injEq] at h; subst h
          exact .inr ⟨i, e.val, g.2, rfl, by simp [Instr.findNow, hn], h2⟩
        | false =>
          simp only [cond_false] at h
          have := ih gs (i + 1) r (by simpa using hl) (fun j a b => by
            have := hr (j + 1) (by simp; omega) (by simp; omega)
            simp only [List.getElem_cons_succ] at this
            exact this) h
          simpa [Instr.findNow, hn] using this

section
variable {base : Nat} {W0 : World} {P : Program} {C : GCfg} {Γ : Gam} {a : Act} {ts : GFr} {gh : GHeap} {w : World}

theorem erel_list {es : Array MapEntry} {gs : List (GVal × GVal)} (h : ERel Γ es gs) : es.toList.length = gs.length ∧ ∀ j (h1 : j < es.toList.length) (h2 : j < gs.length), VRel Γ es.toList[j].key gs[j].1 ∧ VRel Γ es.toList[j].val gs[j].2 := by
  refine ⟨by simpa using h.1, fun j h1 h2 => ?_⟩
  obtain ⟨e, he, hk, hv⟩ := h.2 j h2
  have h1' : j < es.size := by simpa using h1
  rw [Array.getElem?_eq_getElem h1'] at he
  cases he
  simpa using ⟨hk, hv⟩

theorem run_checkKey (w : World) (e : Bool) (n : Nat) (kt : TypeId) (d : TypeDesc) (hd : P.underlying kt = some d) (hk : d = .string ∨ ∃ q, d = .int q) (x : Value) : (Instr.checkKey e (n + 1) kt x).run P w = .ok () w := by
  unfold Instr.checkKey
  rw [Sem.run_bind, run_underlying hd]
  rcases hk with rfl | ⟨q, rfl⟩ <;> rfl

theorem map_block (h : WRel base W0 Γ gh w) {k r o n : Nat} {gs : List (GVal × GVal)} (hk : gh.get k = some (.map gs)) (hl : Γ.loc k = some (r, o, n)) : ∃ es clock, w.heap[r]? = some (.map es clock) ∧ ERel Γ es gs := by
  obtain ⟨r', o', n', es, clock, hl', _, hr, he⟩ := (h.blk k _ hk).2.ex
  rw [hl] at hl'; cases hl'
  exact ⟨es, clock, hr, he⟩

theorem found_rel {Γ : Gam} {zx y : Value} {z v r : GVal} (hz : VRel Γ zx z) (hy : VRel Γ y v) (ok : Bool) :
    (found z ok (some (some v)) = some r → VRel Γ (if ok then .tuple #[y, .bool true] else y) r) ∧ (found z ok (some none) = some r → VRel Γ (if ok then .tuple #[zx, .bool false] else zx) r) := by
  have pair : ∀ (p : Value) (q : GVal) (b : Bool), VRel Γ p q → VRel Γ (.tuple #[p, .bool b]) (.tuple [q, .bool b]) := fun p q b h =>
    .tuple _ _ rfl (fun i hi => by
      match i with
      | 0 => simpa using h
      | 1 => simpa using VRel.bool b
      | n + 2 => simp at hi; omega)
  constructor
  · intro h; simp only [found, Option.some.injEq] at h; subst h
    cases ok
    · exact hy
    · exact pair y v true hy
  · intro h; simp only [found, Option.some.injEq] at h; subst h
    cases ok
    · exact hz
    · exact pair zx z false hz

theorem lookup_sound (h : WRel base W0 Γ gh w) (t kt e : TypeId) (str : Bool) (d : TypeDesc) (hu : P.underlying t = some (.map kt e)) (hd : P.underlying kt = some d) (hk : if str then d = .string else ∃ q, d = .int q) (z : GVal) (hz : zeroT P e = some z) (ok : Bool)
    {x y : Value} {m k : GVal} (hx : VRel Γ x m) (hy : VRel Γ y k) (r : GVal) (hr : lookV gh str z ok m k = some r) : ∃ v, (Instr.lookup t x y ok).run P w = .ok v w ∧ VRel Γ v r := by
  unfold lookV at hr
  cases hko : keyOk str k with
  | false => simp [hko] at hr
  | true =>
    simp only [hko, cond_true] at hr
    obtain ⟨zx, hzx, hcz⟩ := run_zero (P := P) w hz
    have hzr := constOf_rel zx z hcz Γ
    have hdk : d = .string ∨ ∃ q, d = .int q := by
      cases str
      · simp only [Bool.false_eq_true, if_false] at hk; exact .inr hk
      · simp only [if_true] at hk; exact .inl hk
    have hck : ∀ b, (Instr.checkKey b 10000 kt y).run P w = .ok () w := fun b => run_checkKey w b 9999 kt d hd hdk y
    cases hx <;> simp only [reduceCtorEq] at hr
    case nilmap =>
      refine ⟨_, ?_, (found_rel hzr hzr ok).2 hr⟩
      unfold Instr.lookup
      simp only [Sem.run_bind, run_underlying hu, Result.andThen_ok, Sem.run_pure, hck]
      have : (Instr.findKey kt y (#[] : Array MapEntry).toList).run P w = .ok none w := by
        simp [Instr.findKey, run_underlying hd, Instr.findNow]
      simp only [this, Result.andThen_ok, Sem.run_bind, hzx, Sem.run_pure]
    case map k' r' o n hl =>
      cases hb : gh.get k' with
      | none => simp [hb, mapOf, findIn, found] at hr
      | some b =>
        cases b <;> simp only [hb, mapOf, findIn, found, reduceCtorEq] at hr
        case map gs =>
          obtain ⟨es, clock, hw, he⟩ := map_block h hb hl
          obtain ⟨el, er⟩ := erel_list he
          cases hf : gFind k gs with
          | none => simp [hf] at hr
          | some fr =>
            have hgo : (getObj r').run P w = .ok (.map es clock) w := by
              simp only [getObj, Sem.run, hw]
            rcases gFind_sound hy str hko d hk es.toList gs 0 fr el er hf with ⟨rfl, hn⟩ | ⟨j, yv, v, rfl, hn, hv⟩
            · rw [hf] at hr
              refine ⟨_, ?_, (found_rel hzr hzr ok).2 hr⟩
              unfold Instr.lookup
              simp only [Sem.run_bind, run_underlying hu, Result.andThen_ok, hgo, Sem.run_pure, hck]
              have : (Instr.findKey kt y es.toList).run P w = .ok none w := by
                simp [Instr.findKey, run_underlying hd, hn]
              simp only [this, Result.andThen_ok, Sem.run_bind, hzx, Sem.run_pure]
            · rw [hf] at hr
              refine ⟨_, ?_, (found_rel hzr hv ok).1 hr⟩
              unfold Instr.lookup
              simp only [Sem.run_bind, run_underlying hu, Result.andThen_ok, hgo, Sem.run_pure, hck]
              have : (Instr.findKey kt y es.toList).run P w = .ok (some (j, yv)) w := by
                simp [Instr.findKey, run_underlying hd, hn]
              simp only [this, Result.andThen_ok, Sem.run_bind, Sem.run_pure]

theorem lenMap_sound (h : WRel base W0 Γ gh w) (t kt e : TypeId) (hu : P.underlying t = some (.map kt e)) {x : Value} {m : GVal} (hx : VRel Γ x m) (r : GVal) (hr : lenMapV gh m = some r) (ty : TypeId) (ats : Array TypeId) (ha : ats[0]? = some t) :
    ∃ v, (Builtin.len_ ats ty #[x]).run P w = .ok v w ∧ VRel Γ v r := by
  unfold Builtin.len_
  simp only [ha]
  cases hx <;> simp only [lenMapV, Option.some.injEq, reduceCtorEq] at hr
  case nilmap => subst hr; exact ⟨.int .i64 0, by simp [run_underlying hu, goInt], .int _ _⟩
  case map k r' o n hl =>
    cases hb : gh.get k with
    | none => simp [hb, mapOf] at hr
    | some b =>
      cases b <;> simp only [hb, mapOf, Option.some.injEq, reduceCtorEq] at hr
      case map gs =>
        subst hr
        obtain ⟨es, clock, hw, he⟩ := map_block h hb hl
        refine ⟨.int .i64 es.size, ?_, by rw [he.1]; exact .int _ _⟩
        have hgo : (getObj r').run P w = .ok (.map es clock) w := by simp only [getObj, Sem.run, hw]
        simp [run_underlying hu, hgo, goInt]

/-! ### Bytes to a text -/
theorem byteOf_spec {v : GVal} {n : Nat} (h : byteOf? v = some n) : v = .int .u8 (Int.ofNat n) ∧ n < 256 := by
  unfold byteOf? at h
  split at h
  · rename_i m
    cases hb : Nat.blt m 256 with
    | false => simp [hb] at h
    | true =>
      simp only [hb, cond_true, Option.some.injEq] at h; subst h
      have h255 : m ≤ 255 := by simpa [Nat.blt] using hb
      exact ⟨rfl, by omega⟩
  · cases h

theorem bytesOf_spec : ∀ (gs : List GVal) (s : List Nat), bytesOf? gs = some s → gs = s.map (fun n => GVal.int .u8 (Int.ofNat n)) ∧ ∀ n ∈ s, n < 256 := by
  intro gs
  induction gs with
  | nil => intro s h; simp only [bytesOf?, Option.some.injEq] at h; subst h; exact ⟨rfl, fun _ h => by cases h⟩
  | cons v rest ih =>
    intro s h
    simp only [bytesOf?] at h
    cases hb : byteOf? v with
    | none => simp [hb] at h
    | some n =>
      cases hr : bytesOf? rest with
      | none => simp [hb, hr] at h
      | some r =>
        simp only [hb, hr, Option.some.injEq] at h; subst h
        obtain ⟨h1, h2⟩ := byteOf_spec hb
        obtain ⟨h3, h4⟩ := ih r hr
        refine ⟨by rw [h1, h3]; rfl, fun m hm => ?_⟩
        rcases List.mem_cons.mp hm with e | e
        · exact e ▸ h2
        · exact h4 m e

theorem text_rel {Γ : Gam} (s : List Nat) (h : ∀ n ∈ s, n < 256) : VRel Γ (.string (strOfNums (s.map Int.ofNat))) (.str s) := by
  refine .str _ _ ?_
  rw [strOfNums_data]
  simp only [List.map_map]
  conv => rhs; rw [← List.map_id s]
  refine List.map_congr_left fun n hn => ?_
  have := h n hn
  simp [Function.comp]
  omega

theorem bytes_at (src dst e : TypeId) (hs : P.underlying src = some (.slice e)) (hd : P.underlying dst = some .string) (he : P.underlying e = some (.int .u8)) (r o cap : Nat) (gs : List GVal) (s : List Nat) (hb : bytesOf? gs = some s) {L : Nat} (hL : L = s.length)
    (hc : ∀ i (h : i < gs.length), ∃ x, w.cell? ⟨r, o + i, none⟩ = some x ∧ VRel Γ x gs[i]) :
    ∃ z, (convert src dst (.slice (some ⟨r, o, none⟩) L cap)).run P w = .ok z w ∧ VRel Γ z (.str s) := by
  obtain ⟨rfl, h2⟩ := bytesOf_spec gs s hb
  subst hL
  refine ⟨_, run_convert_bytes_arg w src e hs he r o s.length cap (s.map Int.ofNat) (by simp) (fun i hi => ?_) dst hd, text_rel s h2⟩
  obtain ⟨x, hx, hv⟩ := hc i (by simpa using hi)
  rw [hx]
  simp only [List.getElem_map] at hv
  cases hv
  simp [List.getD, List.getElem?_eq_getElem hi]

theorem toStr_sound (h : WRel base W0 Γ gh w) (src dst e : TypeId) (hs : P.underlying src = some (.slice e)) (hd : P.underlying dst = some .string) (he : P.underlying e = some (.int .u8)) {x : Value} {g : GVal} (hx : VRel Γ x g) (r : GVal) (hr : toStrV gh g = some r) :
    ∃ z, (convert src dst x).run P w = .ok z w ∧ VRel Γ z r := by
  cases hx <;> simp only [toStrV, Option.some.injEq, reduceCtorEq] at hr
  case nils =>
    subst hr
    exact ⟨_, run_convert_bytes_nil w src e hs he 0 0 dst hd, .str _ _ rfl⟩
  case vsl b o cap sz els tok f hsz hz hi h1 hv hc ht =>
    cases hb : bytesOf? els with
    | none => simp [hb, strOf] at hr
    | some s =>
      simp only [hb, strOf, Option.some.injEq] at hr; subst hr
      have e1 := (bytesOf_spec els s hb).1
      have hlen : els.length = s.length := by rw [e1]; simp
      refine bytes_at src dst e hs hd he b o cap els s hb hlen (fun i hl => ?_)
      have hel : els[i].cells = [els[i]] := by
        have : ∃ n, els[i] = GVal.int .u8 (Int.ofNat n) := by
          have : els[i] ∈ s.map (fun n => GVal.int .u8 (Int.ofNat n)) := by rw [← e1]; exact List.getElem_mem hl
          obtain ⟨n, _, e⟩ := List.mem_map.mp this
          exact ⟨n, e.symm⟩
        obtain ⟨n, e⟩ := this; rw [e]; rfl
      have hsz1 : sz = 1 := by rw [← hsz els[i] (List.getElem_mem hl), hel]; rfl
      have := h.immc _ _ _ (hi i 0 hl hz)
      have hvi := hv i hl 0 (by rw [hel]; exact Nat.one_pos)
      refine ⟨f i 0, by rw [← this]; congr 2; simp [hsz1], ?_⟩
      simpa [hel] using hvi
  case hsl k b o n off len cap esz hl hz hc hn =>
    cases hb : gh.get k with
    | none => simp [hb, cellsOf] at hr
    | some bl =>
      cases bl <;> simp only [hb, cellsOf, reduceCtorEq] at hr
      case cells vals lo gr =>
        cases hle : Nat.ble (Nat.add off len) vals.length with
        | false => rw [hle] at hr; cases hr
        | true =>
          rw [hle] at hr; simp only [cond_true] at hr
          have hle' : off + len ≤ vals.length := Nat.le_of_ble_eq_true hle
          cases hbo : bytesOf? ((vals.drop off).take len) with
          | none => simp [hbo, strOf] at hr
          | some s =>
            simp only [hbo, strOf, Option.some.injEq] at hr; subst hr
            have hlen : len = s.length := by
              have := congrArg List.length (bytesOf_spec _ s hbo).1
              simp at this; omega
            obtain ⟨f, hf, h1, hv⟩ := (lies_block w h hb hl).ex
            refine bytes_at src dst e hs hd he b (o + off) cap _ s hbo hlen (fun i hi => ?_)
            simp only [List.length_take, List.length_drop] at hi
            refine ⟨f (off + i), by rw [Nat.add_assoc]; exact hf _ (by omega), ?_⟩
            simp only [List.getElem_take, List.getElem_drop]
            exact hv _ (by omega)
end
end Go.Gh

/-
  THE GHOST MACHINE, EIGHTEENTH TEXT: operations that read memory, put together.
  No claim is proved here.
-/
namespace Go.Gh

section
variable {base : Nat} {W0 : World} {P : Program} {C : GCfg} {Γ : Gam} {a : Act} {ts : GFr} {gh : GHeap} {w : World}

theorem builtin_r_sound (hC : CfgOK P C Γ) (hA : ARel Γ a ts) (h : WRel base W0 Γ gh w) (i : Nat) (b : Builtin) (ats : Array TypeId) (args : Array Operand) (gargs : List GArg) (hargs : gArgs C args.toList = some gargs) (g : ROp)
    (hg : gBuiltin P C i b ats.toList gargs = some (.r g)) (v : GVal) (hv : gRead g gh (GArg.get ts) = some v) (ty : TypeId) (consts : Array Bool) :
    ∃ x, (builtin b ats ty consts (args.map a.eval)).run P w = .ok (.value x) w ∧ VRel Γ x v := by
  obtain ⟨el, hr⟩ := args_rel hC hA hargs
  have one : ∀ x, gargs = [x] → ∃ y, args.map a.eval = #[a.eval y] ∧ VRel Γ (a.eval y) (x.get ts) := by
    intro x e; subst e
    obtain ⟨l⟩ := args
    match l, el with
    | [y], _ => exact ⟨y, by simp, by simpa using hr 0 (by simp) (by simp)⟩
  have at0 : ∀ t rest, ats.toList = t :: rest → ats[0]? = some t := by
    intro t rest e; obtain ⟨l⟩ := ats; simp only at e; subst e; rfl
  unfold gBuiltin at hg
  split at hg
  · split at hg <;> try (cases hg; done)
    split at hg <;> try (cases hg; done)
    split at hg <;> cases hg
  · rename_i t rest x ht
    obtain ⟨y, hay, hy⟩ := one _ rfl
    rw [hay]
    have ha := at0 _ _ ht
    split at hg
    · cases hg
    · cases hg
    · cases hg
    · split at hg <;> cases hg
    · rename_i k e hu; cases hg
      obtain ⟨z, hz, hrz⟩ := lenMap_sound (P := P) h t k e hu hy v hv ty ats ha
      refine ⟨z, ?_, hrz⟩
      show (do pure (.value (← Builtin.len_ ats ty #[a.eval y])) : Sem Next).run P w = _
      simp [hz]
    · cases hg
  · cases hg
  · cases hg
  · cases hg
  · cases hg
  · cases hg
  · cases hg

theorem read_sound (hC : CfgOK P C Γ) (hA : ARel Γ a ts) (h : WRel base W0 Γ gh w) (i : Nat) (o : Oper) (g : ROp) (hg : gOpOf P C i o = some (.r g)) (v : GVal) (hv : gRead g gh (GArg.get ts) = some v) :
    ∃ x, (execOp a.eval o).run P w = .ok (.value x) w ∧ VRel Γ x v := by
  obtain ⟨dst, op, type, pos, after, guard⟩ := o
  have A : ∀ {x : Operand} {gx : GArg}, gArg C x = some gx → VRel Γ (a.eval x) (gx.get ts) := fun hx => arg_rel hC hA hx
  have V : ∀ {s : Sem Value}, (∃ x, s.run P w = .ok x w ∧ VRel Γ x v) → ∃ x, (do pure (.value (← s)) : Sem Next).run P w = .ok (.value x) w ∧ VRel Γ x v := by
    rintro s ⟨x, hx, hv⟩; exact ⟨x, by simp [hx], hv⟩
  unfold gOpOf at hg
  simp only at hg
  split at hg
  case h_1 x => simp only [Option.map_eq_some_iff] at hg; obtain ⟨gx, hx, e⟩ := hg; cases e
  case h_2 x => simp only [Option.map_eq_some_iff] at hg; obtain ⟨gx, hx, e⟩ := hg; cases e
  case h_3 c x y => split at hg <;> cases hg
  case h_4 e =>
    split at hg
    · split at hg <;> cases hg
    · cases hg
  case h_5 e x => split at hg <;> cases hg
  case h_6 t parts =>
    split at hg
    · split at hg
      · simp only [Option.map_eq_some_iff] at hg; obtain ⟨gp, hp, e⟩ := hg; cases e
      · cases hg
    · split at hg
      · simp only [Option.map_eq_some_iff] at hg; obtain ⟨gp, hp, e⟩ := hg; cases e
      · cases hg
    · cases hg
  case h_7 t n parts =>
    split at hg
    · split at hg
      · split at hg <;> cases hg
      · cases hg
    · cases hg
  case h_8 t x =>
    split at hg
    · rename_i n gg gx hs hgg hx; cases hg
      obtain ⟨ad, z, e, hz, hr⟩ := load_sound (P := P) w h t n gg hs hgg (A hx) hv
      refine V ⟨z, ?_, hr⟩
      rw [e]; exact hz
    · cases hg
  case h_9 t x y => split at hg <;> cases hg
  case h_10 x => simp only [Option.map_eq_some_iff] at hg; obtain ⟨gx, hx, e⟩ := hg; cases e
  case h_11 bop t x y yt =>
    split at hg
    · split at hg
      · unfold gEqOf at hg
        split at hg
        · cases hg
        · split at hg <;> cases hg
      · unfold gEqOf at hg
        split at hg
        · cases hg
        · split at hg <;> cases hg
      · cases hg
    · cases hg
  case h_12 uop t x => simp only [Option.map_eq_some_iff] at hg; obtain ⟨gx, hx, e⟩ := hg; cases e
  case h_13 s d x =>
    split at hg
    · cases hg
    · cases hg
    · cases hg
    · cases hg
    · split at hg <;> cases hg
    · rename_i e gx hs hd hx
      split at hg
      · rename_i he; cases hg
        exact V (toStr_sound h s d e hs hd he (A hx) v hv)
      · cases hg
    · cases hg
  case h_14 t x => split at hg <;> cases hg
  case h_15 fn f c => split at hg <;> cases hg
  case h_16 t => cases hg
  case h_17 t l c =>
    split at hg
    · split at hg
      · split at hg <;> cases hg
      · cases hg
    · cases hg
  case h_18 s x i =>
    split at hg
    · split at hg
      · split at hg
        · split at hg <;> cases hg
        · cases hg
      · cases hg
    · cases hg
  case h_19 s x i =>
    split at hg
    · split at hg
      · split at hg <;> cases hg
      · cases hg
    · cases hg
  case h_20 t x ix =>
    split at hg
    · simp only [Option.map_eq_some_iff] at hg; obtain ⟨n, hs, e'⟩ := hg; cases e'
    · simp only [Option.map_eq_some_iff] at hg; obtain ⟨n, hs, e'⟩ := hg; cases e'
    · cases hg
  case h_21 t x ix =>
    split at hg
    · cases hg
    · split at hg <;> cases hg
    · cases hg
  case h_22 t x lo hi mx =>
    split at hg
    · cases hg
    · split at hg
      · cases hg
      simp only [Option.map_eq_some_iff] at hg; obtain ⟨n, hs, e'⟩ := hg; cases e'
    · cases hg
  case h_23 t x ix ok =>
    split at hg
    · rename_i k e gx gi hu hx hi
      split at hg
      · rename_i q z hk hz; cases hg
        exact V (lookup_sound h t k e false _ hu hk ⟨q, rfl⟩ z hz ok (A hx) (A hi) v hv)
      · rename_i z hk hz; cases hg
        exact V (lookup_sound h t k e true _ hu hk rfl z hz ok (A hx) (A hi) v hv)
      · cases hg
    · cases hg
  case h_24 t m k x =>
    split at hg
    · split at hg <;> cases hg
    · cases hg
  case h_25 x ix => simp only [Option.map_eq_some_iff] at hg; obtain ⟨gx, hx, e⟩ := hg; cases e
  case h_26 c =>
    split at hg
    · cases hg
    · rename_i gargs hargs
      split at hg
      · rename_i b hcal
        have := builtin_r_sound hC hA h i b c.argTypes c.args gargs hargs g hg v hv type (c.args.map fun | .const _ => true | _ => false)
        have e : execOp a.eval ⟨dst, .call c, type, pos, after, guard⟩ = builtin b c.argTypes type (c.args.map fun | .const _ => true | _ => false) (c.args.map a.eval) := by
          simp [execOp, resolve, hcal, invoke]
          rfl
        rw [e]; exact this
      · split at hg
        · simp only [Option.map_eq_some_iff] at hg; obtain ⟨gx, hx, e⟩ := hg; cases e
        · cases hg
      · cases hg
      · simp only [Option.map_eq_some_iff] at hg; obtain ⟨gx, hx, e⟩ := hg; cases e
  case h_27 => cases hg
end
end Go.Gh

/-
  THE GHOST MACHINE, NINETEENTH TEXT: operations that change memory.
  No claim is proved here.
-/
namespace Go.Gh

section
variable {base : Nat} {W0 : World} {P : Program} {C : GCfg} {Γ : Gam} {a : Act} {ts : GFr} {gh : GHeap} {w w' : World}

theorem Gam.new_imm (Γ : Gam) (n : Nat) (l t) : (Γ.new n l t).imm = Γ.imm := rfl

/-- A real block that is nobody's is changed or made. -/
theorem WRel.chgFree (h : WRel base W0 Γ gh w) (r : Nat) (hb : base ≤ r) (hf : ∀ k b, gh.get k = some b → own Γ k b ≠ some r) (hc : Chg w w' r)
    (hcell : ∀ o v, Γ.imm r o = some v → w'.cell? ⟨r, o, none⟩ = some v) : WRel base W0 Γ gh w' := by
  have := (h.adopt r hb hf hc (Γ.imm r) (fun _ _ e => e) hcell).2
  have e : Γ.fix r (Γ.imm r) = Γ := by
    unfold Gam.fix
    have : (fun q o => if q = r then Γ.imm r o else Γ.imm q o) = Γ.imm := by
      funext q o
      by_cases h : q = r
      · subst h; simp
      · simp [h]
    rw [this]
  rwa [e] at this

theorem imm_new (h : WRel base W0 Γ gh w) (j : Nat) : Γ.imm w.heap.size j = none := by
  cases e : Γ.imm w.heap.size j with
  | none => rfl
  | some v => exact absurd (imm_lt h e) (Nat.lt_irrefl _)

/-- A new real block. -/
theorem WRel.chgNew (h : WRel base W0 Γ gh w) (hc : Chg w w' w.heap.size) : WRel base W0 Γ gh w' :=
  h.chgFree w.heap.size h.big (own_ne_new h) hc (fun o v e => by rw [imm_new h] at e; cases e)

/-- A new block, and a new ghost block over it. -/
theorem WRel.newCells (h : WRel base W0 Γ gh w) (hc : Chg w w' w.heap.size) (c : Array Value) (hrow : RowAt w' w.heap.size c) (vals : List GVal) (lo : Nat) (gr : Bool) (nd : Nat) (hnd : nd ≤ c.size) (hl : vals.length ≤ nd)
    (h1 : ∀ v ∈ vals, v.one = true) (hv : ∀ j (hj : j < vals.length), VRel Γ (c.getD j undef) vals[j]) :
    Γ.le (Γ.new gh.n (some (w.heap.size, 0, nd)) none) ∧ WRel base W0 (Γ.new gh.n (some (w.heap.size, 0, nd)) none) (gh.push (.cells vals lo gr)) w' := by
  have hW := h.chgNew hc
  have hle : Γ.le (Γ.new gh.n (some (w.heap.size, 0, nd)) none) := (hW.push .dead _ _ trivial (fun k b' r hk ho => by cases ho)).1
  refine hW.push (.cells vals lo gr) _ _ ⟨w.heap.size, 0, nd, c, by rw [Gam.new_loc, if_pos rfl], h.big, hrow, hnd, by omega, h1, fun j hj => ?_, fun j _ => imm_new h j⟩ ?_
  · rw [Nat.zero_add]; exact (hv j hj).mono hle
  · intro k b' r hk ho
    simp only [own, Gam.new_loc, if_pos, Option.map_some, Option.some.injEq] at ho
    subst ho
    exact own_ne_new h k b' hk

theorem WRel.newMap (h : WRel base W0 Γ gh w) (hc : Chg w w' w.heap.size) (es : Array MapEntry) (clock : Nat) (hr : w'.heap[w.heap.size]? = some (.map es clock)) (gs : List (GVal × GVal)) (he : ERel Γ es gs) :
    Γ.le (Γ.new gh.n (some (w.heap.size, 0, 0)) none) ∧ WRel base W0 (Γ.new gh.n (some (w.heap.size, 0, 0)) none) (gh.push (.map gs)) w' := by
  have hW := h.chgNew hc
  have hle : Γ.le (Γ.new gh.n (some (w.heap.size, 0, 0)) none) := (hW.push .dead _ _ trivial (fun k b' r hk ho => by cases ho)).1
  refine hW.push (.map gs) _ _ ⟨w.heap.size, 0, 0, es, clock, by rw [Gam.new_loc, if_pos rfl], h.big, hr, he.1, fun j hj => ?_⟩ ?_
  · obtain ⟨e, h1, h2, h3⟩ := he.2 j hj
    exact ⟨e, h1, h2.mono hle, h3.mono hle⟩
  · intro k b' r hk ho
    simp only [own, Gam.new_loc, if_pos, Option.map_some, Option.some.injEq] at ho
    subst ho
    exact own_ne_new h k b' hk

/-- A new block of which the first cells are fixed; who holds the mark may write behind them. -/
theorem WRel.newTip (h : WRel base W0 Γ gh w) (hc : Chg w w' w.heap.size) (c : Array Value) (hrow : RowAt w' w.heap.size c) (used cap sz : Nat) (hcap : cap * sz ≤ c.size) :
    ∃ Γ', Γ.le Γ' ∧ WRel base W0 Γ' (gh.push (.tip true)) w' ∧ (∀ j, j < used * sz → Γ'.imm w.heap.size j = c[j]?) ∧ Γ'.tip gh.n = some (w.heap.size, 0, used, cap, sz) := by
  have hA := h.adopt w.heap.size h.big (own_ne_new h) hc (fun j => if j < used * sz then c[j]? else none) (fun o v e => by rw [imm_new h] at e; cases e) (fun o v e => by
    rw [hrow.cell]
    by_cases hj : o < used * sz
    · simpa [hj] using e
    · simp [hj] at e)
  refine ⟨(Γ.fix w.heap.size (fun j => if j < used * sz then c[j]? else none)).new gh.n none (some (w.heap.size, 0, used, cap, sz)), ?_⟩
  have hP := hA.2.push (.tip true) none (some (w.heap.size, 0, used, cap, sz)) ⟨w.heap.size, 0, used, cap, sz, c, by rw [Gam.new_tip, if_pos rfl], h.big, hrow, by omega, fun j hj => ?_⟩ ?_
  · refine ⟨hA.1.trans hP.1, hP.2, fun j hj => ?_, by rw [Gam.new_tip, if_pos rfl]⟩
    rw [Gam.new_imm, Gam.fix_imm, if_pos rfl, if_pos hj]
  · rw [Gam.new_imm, Gam.fix_imm, if_pos rfl, if_neg (by omega)]
  · intro k b' r hk ho
    simp only [own, Gam.new_tip, if_pos, Option.map_some, Option.some.injEq] at ho
    subst ho
    rw [own_fix]
    exact own_ne_new h k b' hk

theorem newVar_run (w : World) (e : TypeId) (x : Value) : (newVar e x).run P w = .ok ⟨w.heap.size, 0, none⟩ (newB w (.cells x.cells e)) := by
  simp [newVar, newRow, newB]

theorem alloc_sound (h : WRel base W0 Γ gh w) (e : TypeId) (z : GVal) (hz : zeroT P e = some z) (hn : notTup z = true) :
    ∃ x w' Γ', Γ.le Γ' ∧ (Instr.alloc e true (.tuple #[])).run P w = .ok x w' ∧ VRel Γ' x (.ptr gh.n 0) ∧ WRel base W0 Γ' (gh.push (.cells z.cells 0 false)) w' := by
  obtain ⟨zx, hzx, hcz⟩ := run_zero (P := P) w hz
  have hal := cells_alike (constOf_rel zx z hcz Γ) hn
  obtain ⟨hle, hW⟩ := h.newCells (chg_newB w (.cells zx.cells e)) zx.cells (row_newB w zx.cells e) z.cells 0 false zx.cells.size (Nat.le_refl _) (by rw [hal.size]; exact Nat.le_refl _) hal.one hal.at_
  refine ⟨_, _, _, hle, ?_, .ptr gh.n w.heap.size 0 zx.cells.size 0 (by rw [Gam.new_loc, if_pos rfl]), hW⟩
  simp [Instr.alloc, hzx, newVar_run]

theorem box_sound (h : WRel base W0 Γ gh w) (e : TypeId) (n : Nat) {x : Value} {v : GVal} (hx : VRel Γ x v) (r : GVal × GHeap) (hr : gBox gh n v = some r) :
    ∃ y w' Γ', Γ.le Γ' ∧ (Instr.box e x).run P w = .ok y w' ∧ VRel Γ' y r.1 ∧ WRel base W0 Γ' r.2 w' := by
  unfold gBox at hr
  cases hc : (notTup v && Nat.beq v.cells.length n) with
  | false => simp [hc] at hr
  | true =>
    simp only [hc, cond_true, Option.some.injEq] at hr; subst hr
    simp only [Bool.and_eq_true] at hc
    have hal := cells_alike hx hc.1
    obtain ⟨hle, hW⟩ := h.newCells (chg_newB w (.cells x.cells e)) x.cells (row_newB w x.cells e) v.cells 0 false x.cells.size (Nat.le_refl _) (by rw [hal.size]; exact Nat.le_refl _) hal.one hal.at_
    refine ⟨_, _, _, hle, ?_, .ptr gh.n w.heap.size 0 x.cells.size 0 (by rw [Gam.new_loc, if_pos rfl]), hW⟩
    simp [Instr.box, newVar_run]

theorem mkMap_sound (h : WRel base W0 Γ gh w) (t : TypeId) :
    ∃ y w' Γ', Γ.le Γ' ∧ (Instr.makeMap t none).run P w = .ok y w' ∧ VRel Γ' y (.map gh.n) ∧ WRel base W0 Γ' (gh.push (.map [])) w' := by
  obtain ⟨hle, hW⟩ := h.newMap (chg_newB w (.map #[] 0)) #[] 0 (newB_at w _) [] ⟨rfl, fun i hi => by simp at hi⟩
  refine ⟨_, _, _, hle, ?_, .map gh.n w.heap.size 0 0 (by rw [Gam.new_loc, if_pos rfl]), hW⟩
  simp [Instr.makeMap, newB]

/-- The cells of a ghost block are changed. -/
theorem cells_store (h : WRel base W0 Γ gh w) {k r o n : Nat} {vals : List GVal} {lo : Nat} {gr : Bool} (hk : gh.get k = some (.cells vals lo gr)) (hl : Γ.loc k = some (r, o, n)) (off : Nat) (x : Array Value) (xs : List GVal) (hx : ALike Γ x xs)
    (hle : off + xs.length ≤ vals.length) (hlo : lo ≤ off) :
    ∃ w', (storeCells ⟨r, o + off, none⟩ x.toList).run P w = .ok () w' ∧ WRel base W0 Γ (gh.set k (.cells (splice vals off xs) lo gr)) w' := by
  obtain ⟨r', o', n', c, hl', hb, hr, hs, hn, h1, hv, hi⟩ := (h.blk k _ hk).2.ex
  rw [hl] at hl'; cases hl'
  obtain ⟨ty, fz, hh⟩ := hr.here
  have hxl : x.toList.length = xs.length := by simpa using hx.size
  have hone : ∀ v ∈ x.toList, v.oneCell' = true := fun v hv => by
    obtain ⟨j, hj, rfl⟩ := List.mem_iff_getElem.mp hv
    rw [hxl] at hj
    obtain ⟨y, hy, hr, h1⟩ := hx.get (List.getElem?_eq_getElem hj)
    have : x.toList[j] = y := by
      have : x[j]? = some y := hy
      simp only [Array.getElem?_eq_some_iff] at this
      obtain ⟨_, e⟩ := this
      simpa using e
    rw [this]; exact oneCell_of hr h1
  obtain ⟨w', hrun, hh', hchg, hfz⟩ := run_stCells P r (o + off) ty fz x.toList 0 c w hh (by rw [hxl]; omega) hr.free hone
  refine ⟨w', hrun, ?_⟩
  rw [Nat.add_zero] at hh'
  have hrow' : RowAt w' r (spl c (o + off) x.toList) := ⟨⟨ty, fz, hh'⟩, fun j hj => by rw [hfz]; exact hr.free j (by simpa [spl_size] using hj)⟩
  have hspl : (splice vals off xs).length = vals.length := by
    have e : Nat.add off xs.length = off + xs.length := rfl
    simp [splice]; omega
  refine h.upd k r _ (.cells (splice vals off xs) lo gr) hk (by simp [own, hl]) hchg (fun j v hj => ?_) ⟨r, o, n, _, hl, hb, hrow', by rw [spl_size]; exact hs, by rw [hspl]; exact hn, fun v hv => ?_, fun j hj => ?_, hi⟩ (by simp [own, hl])
  · have hjo : ¬ (o + lo ≤ j) := fun e => by rw [hi j e] at hj; cases hj
    rw [hrow'.cell, spl_out _ _ _ _ (by omega), ← hr.cell]
    exact h.immc r j v hj
  · simp only [splice, List.mem_append] at hv
    rcases hv with (hv | hv) | hv
    · exact h1 v (List.mem_of_mem_take hv)
    · exact hx.one v hv
    · exact h1 v (List.mem_of_mem_drop hv)
  · rw [hspl] at hj
    have e : Nat.add off xs.length = off + xs.length := rfl
    rw [getD_eq]
    by_cases h1' : j < off
    · rw [spl_out _ _ _ _ (by omega), ← getD_eq]
      have := hv j hj
      have e2 : (splice vals off xs)[j] = vals[j] := by
        simp only [splice]
        rw [List.getElem_append_left (by simp; omega), List.getElem_append_left (by simp; omega)]
        simp
      rw [e2]; exact this
    · by_cases h2' : j < off + xs.length
      · have hjx : j - off < xs.length := by omega
        have e1 := spl_in x.toList c (o + off) (j - off) (by rw [hxl]; exact hjx) (by rw [hxl]; omega)
        rw [show o + off + (j - off) = o + j by omega] at e1
        rw [e1]
        have := hx.at_ (j - off) hjx
        rw [getD_eq] at this
        have e2 : (splice vals off xs)[j] = xs[j - off] := by
          simp only [splice]
          rw [List.getElem_append_left (by simp; omega), List.getElem_append_right (by simp; omega)]
          congr 1
          simp; omega
        rw [e2]
        simpa using this
      · rw [spl_out _ _ _ _ (by rw [hxl]; omega), ← getD_eq]
        have := hv j hj
        have e2 : (splice vals off xs)[j] = vals[j] := by
          simp only [splice, e]
          rw [List.getElem_append_right (by simp; omega)]
          simp only [List.length_append, List.length_take, List.getElem_drop]
          congr 1
          omega
        rw [e2]; exact this

theorem store_sound (h : WRel base W0 Γ gh w) (t : TypeId) (n : Nat) (hs : sizeT P t = some n) {x y : Value} {g v : GVal} (hx : VRel Γ x g) (hy : VRel Γ y v) (gh' : GHeap) (hr : gStore gh n g v = some gh') :
    ∃ w', (Instr.storeAt t x y).run P w = .ok () w' ∧ WRel base W0 Γ gh' w' := by
  cases hx <;> simp only [gStore, reduceCtorEq] at hr
  case ptr k r o m off hl =>
    cases hn : notTup v with
    | false => simp [hn] at hr
    | true =>
      simp only [hn, cond_true] at hr
      cases hb : gh.get k with
      | none => simp [hb, stBlock] at hr
      | some b =>
        cases b <;> simp only [hb, stBlock, reduceCtorEq] at hr
        case cells vals lo gr =>
          unfold stCells at hr
          cases hc : (Nat.beq v.cells.length n && Nat.ble (Nat.add off n) vals.length && Nat.ble lo off) with
          | false => rw [hc] at hr; cases hr
          | true =>
            rw [hc] at hr
            simp only [cond_true, Option.some.injEq] at hr; subst hr
            simp only [Bool.and_eq_true] at hc
            have e1 : v.cells.length = n := Nat.eq_of_beq_eq_true hc.1.1
            have e2 : off + n ≤ vals.length := Nat.le_of_ble_eq_true hc.1.2
            have e3 : lo ≤ off := Nat.le_of_ble_eq_true hc.2
            have hal := cells_alike hy hn
            obtain ⟨w', hrun, hW⟩ := cells_store (P := P) h hb hl off y.cells v.cells hal (by omega) e3
            refine ⟨w', ?_, hW⟩
            have hsz : y.cells.size = n := by rw [hal.size, e1]
            simp [Instr.storeAt, Instr.sureAddr, storeVar, run_size w hs, hsz, hrun]

theorem ERel.mono {Γ Γ' : Gam} (hle : Γ.le Γ') {es : Array MapEntry} {gs : List (GVal × GVal)} (h : ERel Γ es gs) : ERel Γ' es gs :=
  ⟨h.1, fun j hj => by obtain ⟨e, h1, h2, h3⟩ := h.2 j hj; exact ⟨e, h1, h2.mono hle, h3.mono hle⟩⟩

theorem sameBits_of {Γ : Gam} {x y : Value} {k l : GVal} (hx : VRel Γ x k) (hy : VRel Γ y l) (str : Bool) (hk : keyOk str k = true) (h : eqScalar k l = some true) (n : Nat) : Instr.sameBits n y x = true := by
  cases hx <;> simp only [keyOk, Bool.false_eq_true] at hk
  case int q m =>
    simp only [eqScalar] at h
    cases hy <;> simp only [eqInt, reduceCtorEq] at h
    case int q2 m2 =>
      cases hq : kindEq q q2 with
      | false => simp [hq] at h
      | true =>
        simp only [hq, cond_true, Option.some.injEq, ieq_eq, beq_iff_eq] at h
        have := kindEq_of hq; subst this
        subst h
        simp [Instr.sameBits]
  case str s p hs =>
    simp only [eqScalar] at h
    cases hy <;> simp only [eqStr, Option.some.injEq, reduceCtorEq] at h
    case str s' p' hs' =>
      have e1 : natsSame (bts s) (bts s') = true := by unfold bts; rw [hs, hs']; exact h
      rw [natsSame_bts] at e1
      unfold Instr.sameBits
      rw [beq_toListBytes]
      simp only [beq_iff_eq] at e1 ⊢
      exact e1.symm

theorem key_same {str : Bool} {k l : GVal} (hk : keyOk str k = true) (h : eqScalar k l = some true) : k = l := by
  cases k <;> simp only [keyOk, Bool.false_eq_true] at hk
  case int q m =>
    simp only [eqScalar] at h
    cases l <;> simp only [eqInt, reduceCtorEq] at h
    case int q2 m2 =>
      cases hq : kindEq q q2 with
      | false => simp [hq] at h
      | true =>
        simp only [hq, cond_true, Option.some.injEq, ieq_eq, beq_iff_eq] at h
        have := kindEq_of hq; subst this
        subst h; rfl
  case str s =>
    simp only [eqScalar] at h
    cases l <;> simp only [eqStr, Option.some.injEq, reduceCtorEq] at h
    case str s' => rw [(natsSame_iff _ _).1 h]

theorem mapSet_sound {Γ : Gam} {x : Value} {k v : GVal} (hx : VRel Γ x k) (str : Bool) (hk : keyOk str k = true) (d : TypeDesc) (hd : if str then d = .string else ∃ q, d = .int q) :
    ∀ (es : List MapEntry) (gs gs' : List (GVal × GVal)) (i : Nat), es.length = gs.length → (∀ j (h1 : j < es.length) (h2 : j < gs.length), VRel Γ es[j].key gs[j].1 ∧ VRel Γ es[j].val gs[j].2) → mapSet k v gs = some gs' →
    (Instr.findNow d x es i = some none ∧ gs' = gs ++ [(k, v)]) ∨ ∃ (j : Nat) (e : MapEntry), Instr.findNow d x es i = some (some (i + j, e.val)) ∧ es[j]? = some e ∧ Instr.sameBits 10000 e.key x = true ∧ gs' = gs.set j (k, v) := by
  intro es
  induction es with
  | nil =>
    intro gs gs' i hl _ h
    cases gs with
    | nil => simp only [mapSet, Option.some.injEq] at h; exact .inl ⟨rfl, h.symm⟩
    | cons => simp at hl
  | cons e es ih =>
    intro gs gs' i hl hr h
    cases gs with
    | nil => simp at hl
    | cons g gs =>
      simp only [mapSet] at h
      obtain ⟨h1, h2⟩ := hr 0 (by simp) (by simp)
      simp only [List.getElem_cons_zero] at h1 h2
      cases hq : eqScalar k g.1 with
      | none => simp [hq] at h
      | some b =>
        simp only [hq] at h
        have hn := eqScalar_now hx h1 str hk d hd b hq
        cases b with
        | true =>
          simp only [cond_true, Option.some.injEq] at h; subst h
          have e1 := key_same hk hq
          refine .inr ⟨0, e, by simp [Instr.findNow, hn], rfl, sameBits_of hx h1 str hk hq 10000, by rw [e1]; rfl⟩
        | false =>
          simp only [cond_false] at h
          cases hm : mapSet k v gs with
          | none => simp [hm] at h
          | some r =>
            simp only [hm, Option.some.injEq] at h; subst h
            rcases ih gs r (i + 1) (by simpa using hl) (fun j a b => by
              have := hr (j + 1) (by simp; omega) (by simp; omega)
              simp only [List.getElem_cons_succ] at this
              exact this) hm with ⟨h3, rfl⟩ | ⟨j, e', h3, h4, h5, rfl⟩
            · exact .inl ⟨by simpa [Instr.findNow, hn] using h3, rfl⟩
            · refine .inr ⟨j + 1, e', ?_, by simpa using h4, h5, rfl⟩
              rw [show i + (j + 1) = i + 1 + j by omega]
              simpa [Instr.findNow, hn] using h3

theorem mapPut_sound (h : WRel base W0 Γ gh w) (t kt e : TypeId) (str : Bool) (d : TypeDesc) (hu : P.underlying t = some (.map kt e)) (hd : P.underlying kt = some d) (hk : if str then d = .string else ∃ q, d = .int q)
    {x y z : Value} {m k v : GVal} (hx : VRel Γ x m) (hy : VRel Γ y k) (hz : VRel Γ z v) (r : GVal × GHeap) (hr : gMapPut gh str m k v = some r) :
    ∃ w', (Instr.mapUpdate t x y z).run P w = .ok () w' ∧ WRel base W0 Γ r.2 w' ∧ r.1 = gundef := by
  unfold gMapPut at hr
  cases hko : keyOk str k with
  | false => simp [hko] at hr
  | true =>
    simp only [hko, cond_true] at hr
    cases hx <;> simp only [reduceCtorEq] at hr
    case map kb r' o n hl =>
      cases hb : gh.get kb with
      | none => simp [hb, mapOf, setIn, putIn] at hr
      | some b =>
        cases b <;> simp only [hb, mapOf, setIn, putIn, reduceCtorEq] at hr
        case map gs =>
          cases hm : mapSet k v gs with
          | none => simp [hm] at hr
          | some gs' =>
            simp only [hm, Option.some.injEq] at hr; subst hr
            obtain ⟨es, clock, hw, he⟩ := map_block h hb hl
            obtain ⟨el, er⟩ := erel_list he
            obtain ⟨_, _, _, _, _, hl', hbase, _, _⟩ := (h.blk kb _ hb).2.ex
            rw [hl] at hl'; cases hl'
            have hdk : d = .string ∨ ∃ q, d = .int q := by
              cases str
              · simp only [Bool.false_eq_true, if_false] at hk; exact .inr hk
              · simp only [if_true] at hk; exact .inl hk
            have hck : (Instr.checkKey false 10000 kt y).run P w = .ok () w := run_checkKey w false 9999 kt d hd hdk y
            have hgo : (getObj r').run P w = .ok (.map es clock) w := by simp only [getObj, Sem.run, hw]
            have hrs : r' < w.heap.size := (h.own_lt hb (by simp [own, hl])).2
            have hset : ∀ o : Obj, ∃ w', (setObj r' o).run P w = .ok () w' ∧ w'.heap[r']? = some o ∧ Chg w w' r' := fun o => by
              refine ⟨{ w with heap := w.heap.setIfInBounds r' o }, ?_, by simp [hrs], ⟨rfl, rfl, rfl, by simp, fun q hq => by simp [Array.getElem?_setIfInBounds_ne (Ne.symm hq)]⟩⟩
              simp only [setObj, Sem.run, hw]
            have fin : ∀ (es' : Array MapEntry) (clock' : Nat), ERel Γ es' gs' → ∃ w', (setObj r' (.map es' clock')).run P w = .ok () w' ∧ WRel base W0 Γ (gh.set kb (.map gs')) w' := fun es' clock' he' => by
              obtain ⟨w', h1, h2, h3⟩ := hset (.map es' clock')
              refine ⟨w', h1, h.upd kb r' _ (.map gs') hb (by simp [own, hl]) h3 (fun o' v' hi => ?_) ⟨r', o, n, es', clock', hl, hbase, h2, he'⟩ (by simp [own, hl])⟩
              have := h.immc r' o' v' hi
              simp [World.cell?, hw] at this
            rcases mapSet_sound hy str hko d hk es.toList gs gs' 0 el er hm with ⟨hn, rfl⟩ | ⟨j, e', hn, hj, hsb, rfl⟩
            · obtain ⟨w', h1, hW⟩ := fin (es.push { key := y, val := z, born := clock }) (clock + 1) ⟨by simp [he.1], fun i hi => by
                simp only [List.length_append, List.length_cons, List.length_nil] at hi
                by_cases hlt : i < gs.length
                · obtain ⟨e', h1, h2, h3⟩ := he.2 i hlt
                  refine ⟨e', ?_, ?_, ?_⟩
                  · rw [Array.getElem?_push, if_neg (by rw [he.1]; omega)]; exact h1
                  · rw [List.getElem_append_left hlt]; exact h2
                  · rw [List.getElem_append_left hlt]; exact h3
                · have : i = gs.length := by omega
                  subst this
                  refine ⟨_, by rw [Array.getElem?_push, if_pos he.1.symm], ?_, ?_⟩
                  · simpa using hy
                  · simpa using hz⟩
              refine ⟨w', ?_, hW, rfl⟩
              unfold Instr.mapUpdate
              have hfk : (Instr.findKey kt y es.toList).run P w = .ok none w := by simp [Instr.findKey, run_underlying hd, hn]
              simp only [Sem.run_bind, run_underlying hu, Result.andThen_ok, hgo, hck, hfk, h1]
            · have hjs : j < es.toList.length := by
                rcases Nat.lt_or_ge j es.toList.length with h' | h'
                · exact h'
                · rw [List.getElem?_eq_none h'] at hj; cases hj
              obtain ⟨w', h1, hW⟩ := fin (es.modify j fun e => { e with key := y, val := z }) clock ⟨by simp [he.1], fun i hi => by
                simp only [List.length_set] at hi
                obtain ⟨e'', h1, h2, h3⟩ := he.2 i hi
                by_cases hij : j = i
                · subst hij
                  refine ⟨{ e'' with key := y, val := z }, ?_, ?_, ?_⟩
                  · simp [Array.getElem?_modify, h1]
                  · simpa using hy
                  · simpa using hz
                · refine ⟨e'', ?_, ?_, ?_⟩
                  · rw [Array.getElem?_modify, if_neg hij]; exact h1
                  · rw [List.getElem_set_ne hij]; exact h2
                  · rw [List.getElem_set_ne hij]; exact h3⟩
              refine ⟨w', ?_, hW, rfl⟩
              unfold Instr.mapUpdate
              have hfk : (Instr.findKey kt y es.toList).run P w = .ok (some (j, e'.val)) w := by
                rw [Nat.zero_add] at hn
                simp [Instr.findKey, run_underlying hd, hn]
              have hes : es[j]? = some e' := by simpa using hj
              have hks : (Instr.keyThatStays (((es[j]?).map (·.key)).getD y) y).run P w = .ok y w := by
                unfold Instr.keyThatStays
                rw [hes]
                simp [hsb]
              simp only [Sem.run_bind, run_underlying hu, Result.andThen_ok, hgo, hck, hfk, hks, h1]
end
end Go.Gh

/-
  THE GHOST MACHINE, TWENTIETH TEXT: slices are made and grown.
  No claim is proved here.
-/
namespace Go.Gh

theorem extract_alike {Γ : Gam} {c : Array Value} {gs : List GVal} (hl : gs.length ≤ c.size) (h1 : ∀ v ∈ gs, v.one = true) (hv : ∀ j (hj : j < gs.length), VRel Γ (c.getD j undef) gs[j]) : ALike Γ (c.extract 0 gs.length) gs := by
  refine ⟨by simp; omega, h1, fun j hj => ?_⟩
  have := hv j hj
  rw [getD_eq] at this ⊢
  rw [Array.getElem?_extract, if_pos (by omega), Nat.zero_add]
  exact this

section
variable {base : Nat} {W0 : World} {P : Program} {C : GCfg} {Γ : Gam} {a : Act} {ts : GFr} {gh : GHeap} {w w' : World}

/-- A free real block: its ghost, as a mark. -/
theorem WRel.pushTip (h : WRel base W0 Γ gh w) (r : Nat) (hf : ∀ k b, gh.get k = some b → own Γ k b ≠ some r) (hb : base ≤ r) (c : Array Value) (hrow : RowAt w r c) (o used cap sz lo : Nat) (hcap : o + cap * sz ≤ c.size)
    (hlo : lo ≤ o + used * sz) (hnone : ∀ j, lo ≤ j → Γ.imm r j = none) :
    ∃ Γ', Γ.le Γ' ∧ WRel base W0 Γ' (gh.push (.tip true)) w ∧ (∀ j, lo ≤ j → j < o + used * sz → Γ'.imm r j = c[j]?) ∧ Γ'.tip gh.n = some (r, o, used, cap, sz) := by
  have hA := h.adopt r hb hf ⟨rfl, rfl, rfl, Nat.le_refl _, fun _ _ => rfl⟩ (fun j => if lo ≤ j ∧ j < o + used * sz then c[j]? else Γ.imm r j) (fun j v e => by
    by_cases hj : lo ≤ j
    · rw [hnone j hj] at e; cases e
    · simp only [hj, false_and, if_false]; exact e) (fun j v e => by
    by_cases hj : lo ≤ j ∧ j < o + used * sz
    · rw [hrow.cell]; simpa [hj] using e
    · simp only [hj, if_false] at e; exact h.immc r j v e)
  have hP := hA.2.push (.tip true) none (some (r, o, used, cap, sz)) ⟨r, o, used, cap, sz, c, by rw [Gam.new_tip, if_pos rfl], hb, hrow, hcap, fun j hj => ?_⟩ ?_
  · refine ⟨_, hA.1.trans hP.1, hP.2, fun j h1 h2 => ?_, by rw [Gam.new_tip, if_pos rfl]⟩
    rw [Gam.new_imm, Gam.fix_imm, if_pos rfl, if_pos ⟨h1, h2⟩]
  · rw [Gam.new_imm, Gam.fix_imm, if_pos rfl, if_neg (by omega)]
    exact hnone j (by omega)
  · intro k b' q hk ho
    simp only [own, Gam.new_tip, if_pos, Option.map_some, Option.some.injEq] at ho
    subst ho
    rw [own_fix]
    exact hf k b' hk

/-- A free real block: its ghost, as a row of cells. -/
theorem WRel.pushCells (h : WRel base W0 Γ gh w) (r : Nat) (hf : ∀ k b, gh.get k = some b → own Γ k b ≠ some r) (hb : base ≤ r) (c : Array Value) (hrow : RowAt w r c) (o : Nat) (vals : List GVal) (lo : Nat) (gr : Bool) (nd : Nat) (hnd : nd ≤ c.size) (hl : o + vals.length ≤ nd)
    (h1 : ∀ v ∈ vals, v.one = true) (hv : ∀ j (hj : j < vals.length), VRel Γ (c.getD (o + j) undef) vals[j]) (hnone : ∀ j, o + lo ≤ j → Γ.imm r j = none) :
    Γ.le (Γ.new gh.n (some (r, o, nd)) none) ∧ WRel base W0 (Γ.new gh.n (some (r, o, nd)) none) (gh.push (.cells vals lo gr)) w := by
  have hle : Γ.le (Γ.new gh.n (some (r, o, nd)) none) := (h.push .dead _ _ trivial (fun k b' r hk ho => by cases ho)).1
  refine h.push (.cells vals lo gr) _ _ ⟨r, o, nd, c, by rw [Gam.new_loc, if_pos rfl], hb, hrow, hnd, hl, h1, fun j hj => (hv j hj).mono hle, hnone⟩ ?_
  intro k b' q hk ho
  simp only [own, Gam.new_loc, if_pos, Option.map_some, Option.some.injEq] at ho
  subst ho
  exact hf k b' hk

/-- Writing into the tail of a free real block. -/
theorem tail_store (h : WRel base W0 Γ gh w) (r : Nat) (hf : ∀ k b, gh.get k = some b → own Γ k b ≠ some r) (hb : base ≤ r) (c : Array Value) (hrow : RowAt w r c) (p : Nat) (x : Array Value) (xs : List GVal) (hx : ALike Γ x xs) (hl : p + xs.length ≤ c.size)
    (hnone : ∀ j, p ≤ j → Γ.imm r j = none) :
    ∃ w', (storeCells ⟨r, p, none⟩ x.toList).run P w = .ok () w' ∧ RowAt w' r (spl c p x.toList) ∧ WRel base W0 Γ gh w' := by
  obtain ⟨ty, fz, hh⟩ := hrow.here
  have hxl : x.toList.length = xs.length := by simpa using hx.size
  have hone : ∀ v ∈ x.toList, v.oneCell' = true := fun v hv => by
    obtain ⟨j, hj, rfl⟩ := List.mem_iff_getElem.mp hv
    rw [hxl] at hj
    obtain ⟨y, hy, hr, h1⟩ := hx.get (List.getElem?_eq_getElem hj)
    have : x.toList[j] = y := by
      have : x[j]? = some y := hy
      simp only [Array.getElem?_eq_some_iff] at this
      obtain ⟨_, e⟩ := this
      simpa using e
    rw [this]; exact oneCell_of hr h1
  obtain ⟨w', hrun, hh', hchg, hfz⟩ := run_stCells P r p ty fz x.toList 0 c w hh (by rw [hxl]; omega) hrow.free hone
  rw [Nat.add_zero] at hh'
  have hrow' : RowAt w' r (spl c p x.toList) := ⟨⟨ty, fz, hh'⟩, fun j hj => by rw [hfz]; exact hrow.free j (by simpa [spl_size] using hj)⟩
  refine ⟨w', hrun, hrow', h.chgFree r hb hf hchg fun j v hj => ?_⟩
  have hjo : ¬ (p ≤ j) := fun e => by rw [hnone j e] at hj; cases hj
  rw [hrow'.cell, spl_out _ _ _ _ (by omega), ← hrow.cell]
  exact h.immc r j v hj

theorem flat_one {Γ : Gam} {x : Array Value} {els : List GVal} (h : ALike Γ x (flat els)) : ∀ e ∈ els, ∀ v ∈ e.cells, v.one = true := fun e he v hv =>
  h.one v (by simp only [flat, List.mem_flatMap]; exact ⟨e, he, hv⟩)

/-- What a new slice is: its ghost's value and block. -/
def slVal (heap : Bool) (n : Nat) (els : List GVal) (esz : Nat) : GVal := bif heap then .hsl n 0 els.length esz else .vsl els (.tip n esz)
def slBlk (heap : Bool) (vals : List GVal) (lo : Nat) : GBlock := bif heap then .cells vals lo true else .tip true

/-- A slice in a new block. -/
theorem newSl (h : WRel base W0 Γ gh w) (hc : Chg w w' w.heap.size) (c : Array Value) (hrow : RowAt w' w.heap.size c) (els : List GVal) (esz cap : Nat) (hz : 0 < esz) (hu : ∀ e ∈ els, e.cells.length = esz) (hcap : cap * esz ≤ c.size) (hlen : els.length ≤ cap)
    (h1 : ∀ v ∈ flat els, v.one = true) (hv : ∀ j (hj : j < (flat els).length), VRel Γ (c.getD j undef) (flat els)[j]) (heap : Bool) (lo : Nat) :
    ∃ Γ', Γ.le Γ' ∧ VRel Γ' (.slice (some ⟨w.heap.size, 0, none⟩) els.length cap) (slVal heap gh.n els esz) ∧ WRel base W0 Γ' (gh.push (slBlk heap (flat els) lo)) w' := by
  have hfl := flat_length hu
  have hmul : els.length * esz ≤ cap * esz := Nat.mul_le_mul_right _ hlen
  cases heap with
  | true =>
    obtain ⟨hle, hW⟩ := h.newCells hc c hrow (flat els) lo true (cap * esz) hcap (by omega) h1 hv
    refine ⟨_, hle, ?_, hW⟩
    exact .hsl gh.n w.heap.size 0 (cap * esz) 0 els.length cap esz (by rw [Gam.new_loc, if_pos rfl]) hz hlen (by omega)
  | false =>
    obtain ⟨Γ', hle, hW, hi, ht⟩ := h.newTip hc c hrow els.length cap esz hcap
    refine ⟨Γ', hle, ?_, hW⟩
    have hal := (extract_alike (Γ := Γ) (c := c) (gs := flat els) (by omega) h1 hv).mono hle
    refine vsl_of (c := c.extract 0 (flat els).length) hu hz hal (fun j hj => ?_) hlen ⟨rfl, ht⟩
    rw [Nat.zero_add, hi j hj, getD_eq, Array.getElem?_extract, if_pos (by omega), Nat.zero_add]
    have : j < c.size := by omega
    simp [this]

theorem mkSlice_sound (h : WRel base W0 Γ gh w) (t e : TypeId) (z : GVal) (esz b : Nat) (heap : Bool) (hu : P.underlying t = some (.slice e)) (hz : zeroT P e = some z) (hs : sizeT P e = some esz) (hb : bytesT P e = some b) (h0 : ¬ (esz = 0 ∨ b = 0))
    {x y : Value} {l c : GVal} (hx : VRel Γ x l) (hy : VRel Γ y c) (r : GVal × GHeap) (hr : gMkSlice gh z esz b heap l c = some r) :
    ∃ v w' Γ', Γ.le Γ' ∧ (Instr.makeSlice t x y).run P w = .ok v w' ∧ VRel Γ' v r.1 ∧ WRel base W0 Γ' r.2 w' := by
  have hnat : ∀ {x : Value} {l : GVal} {n : Nat}, VRel Γ x l → natOf l = some n → x = .int .i64 (n : Int) := fun {x l n} hx hn => by
    cases hx <;> simp only [natOf, reduceCtorEq] at hn
    case int k m =>
      split at hn
      · rename_i n' e; cases e; cases hn; rfl
      · cases hn
  unfold gMkSlice at hr
  cases hl : natOf l with
  | none => simp [hl] at hr
  | some ln =>
    cases hc : natOf c with
    | none => simp [hl, hc] at hr
    | some cn =>
      simp only [hl, hc] at hr
      have ex := hnat hx hl
      have ey := hnat hy hc
      subst ex; subst ey
      unfold mkSl at hr
      cases hcnd : (Nat.ble ln cn && Nat.ble (Nat.mul cn b) maxRoom && notTup z && Nat.beq z.cells.length esz) with
      | false => rw [hcnd] at hr; cases hr
      | true =>
        rw [hcnd] at hr
        simp only [cond_true, Option.some.injEq] at hr
        simp only [Bool.and_eq_true] at hcnd
        obtain ⟨⟨⟨h1, h2⟩, h3⟩, h4⟩ := hcnd
        have h1 : ln ≤ cn := Nat.le_of_ble_eq_true h1
        have h2 : cn * b ≤ maxRoom := Nat.le_of_ble_eq_true h2
        have h4 : z.cells.length = esz := Nat.eq_of_beq_eq_true h4
        simp only [sizeT, Option.map_eq_some_iff] at hs
        obtain ⟨i, hi, hsz⟩ := hs
        simp only [bytesT, hi, Option.map_some, Option.some.injEq] at hb
        have hzz := hz
        simp only [zeroT, hi, Option.bind_some, Option.bind_eq_some_iff] at hz
        obtain ⟨zx, hzx, hcz⟩ := hz
        have hzr := constOf_rel zx z hcz Γ
        have hal := cells_alike hzr h3
        have hal0 := zeros_alike hal h4 (by omega) cn
        have hb1 : 1 ≤ b := by omega
        have hcb : cn ≤ cn * b := Nat.le_mul_of_pos_right _ hb1
        have hmx : maxRoom = 1099511627776 := rfl
        have hrun := run_make (P := P) w t e i zx hu hi hzx .i64 .i64 (ln : Int) (cn : Int) (by omega) (by omega) (by
          have : ((b * cn : Nat) : Int) ≤ 281474976710656 := by rw [Nat.mul_comm]; omega
          rw [hb]
          rwa [Int.natCast_mul] at this) (by omega)
        rw [Int.toNat_natCast, Int.toNat_natCast, hsz] at hrun
        have huz : ∀ m, ∀ e ∈ List.replicate m z, e.cells.length = esz := fun m e he => by rw [List.eq_of_mem_replicate he]; exact h4
        have hsplit : flat (List.replicate cn z) = flat (List.replicate ln z) ++ flat (List.replicate (cn - ln) z) := by
          rw [← flat_append, List.replicate_append_replicate]; congr 2; omega
        have hfl := flat_length (huz ln)
        rw [List.length_replicate] at hfl
        have hfc := flat_length (huz cn)
        rw [List.length_replicate] at hfc
        have hmul : ln * esz ≤ cn * esz := Nat.mul_le_mul_right _ h1
        obtain ⟨Γ', hle, hV, hW⟩ := newSl (w' := newB w (.cells (madeCells zx.cells (cn * esz)) e)) h (chg_newB w _) _ (row_newB w _ e) (List.replicate ln z) esz cn (by omega) (huz ln) (by rw [size_madeCells]; exact Nat.le_refl _) (by simpa using h1)
          (fun v hv => hal0.one v (by rw [hsplit]; exact List.mem_append_left _ hv)) (fun j hj => by
            have := hal0.at_ j (by omega)
            simp only [hsplit] at this
            rw [List.getElem_append_left hj] at this
            exact this) heap 0
        rw [List.length_replicate] at hV
        subst hr
        refine ⟨_, _, Γ', hle, hrun, ?_, ?_⟩
        · cases heap
          · exact hV
          · simpa [slVal] using hV
        · cases heap <;> exact hW
end
end Go.Gh

