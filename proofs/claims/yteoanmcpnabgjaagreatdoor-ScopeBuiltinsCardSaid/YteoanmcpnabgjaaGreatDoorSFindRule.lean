/-
  THE GHOST MACHINE: the rule for find.
  No claim is proved here.
-/
import Derived.Test.YteoanmcpnabgjaaGreatDoorGhostD
import Derived.Test.YteoanmcpnabgjaaGreatDoorSFind
namespace Go.Gh
open Go.Proofs
open Go.RowKit (Below)

/-- A name and its ghost. -/
def nameOf (p : ByteArray × Int) : List Nat × Int := (bts p.1, p.2)

theorem lastOf_none (name : List Nat) : ∀ (l : List (List Nat × Int)), (∀ p ∈ l, natsSame p.1 name = false) → lastOf name l = none := by
  intro l
  induction l with
  | nil => intro _; rfl
  | cons p l ih =>
    intro h
    rw [lastOf, ih fun q hq => h q (List.mem_cons_of_mem _ hq)]
    simp only [h p (List.mem_cons_self ..), cond_false]

theorem lastOf_some (name : List Nat) : ∀ (l : List (List Nat × Int)) (i : Nat) (hi : i < l.length), natsSame l[i].1 name = true → (∀ j (hj : j < l.length), i < j → natsSame l[j].1 name = false) → lastOf name l = some l[i].2 := by
  intro l
  induction l with
  | nil => intro i hi; simp at hi
  | cons p l ih =>
    intro i hi hm hl
    cases i with
    | zero =>
      have : lastOf name l = none := lastOf_none name l fun q hq => by
        obtain ⟨j, hj, rfl⟩ := List.mem_iff_getElem.mp hq
        have := hl (j + 1) (by simpa using hj) (by omega)
        simpa using this
      simp only [List.getElem_cons_zero] at hm ⊢
      rw [lastOf, this]
      simp only [hm, cond_true]
    | succ i =>
      have := ih i (by simpa using hi) (by simpa using hm) fun j hj hij => by
        have := hl (j + 1) (by simpa using hj) (by omega)
        simpa using this
      rw [lastOf, this]
      simp

theorem found_last {zs : List (ByteArray × Int)} {name : ByteArray} {v : Value} (h : Tryz.Found zs name v) : v = match lastOf (bts name) (zs.map nameOf) with | some m => .tuple #[.int .i64 m, .bool true] | none => .tuple #[.int .i64 0, .bool false] := by
  have hkn : ∀ k, k < zs.length → (Tryz.kn zs zs.length k).2 = zs[zs.length - 1 - k]?.getD default := fun k _ => rfl
  rcases h with ⟨rfl, h⟩ | ⟨k, pre', x, hk, hu, hx, hne, rfl⟩
  · rw [lastOf_none]
    intro p hp
    obtain ⟨q, hq, rfl⟩ := List.mem_map.mp hp
    obtain ⟨j, hj, rfl⟩ := List.mem_iff_getElem.mp hq
    have hm : Tryz.kn zs zs.length (zs.length - 1 - j) ∈ Tryz.upto (Tryz.kn zs zs.length) zs.length := by
      simp only [Tryz.upto, List.mem_map, List.mem_range]
      exact ⟨_, by omega, rfl⟩
    have := h _ hm
    have e : (Tryz.kn zs zs.length (zs.length - 1 - j)).2.1 = zs[j].1 := by
      show (zs[zs.length - 1 - (zs.length - 1 - j)]?.getD default).1 = _
      rw [show zs.length - 1 - (zs.length - 1 - j) = j by omega]
      simp [hj]
    rw [e] at this
    show natsSame (bts zs[j].1) (bts name) = false
    rw [natsSame_bts]; exact this
  · have hk0 : k ≠ 0 := fun e => by subst e; simp [Tryz.upto] at hu
    obtain ⟨k', rfl⟩ := Nat.exists_eq_succ_of_ne_zero hk0
    rw [Tryz.upto_succ] at hu
    have hinj := List.append_inj' hu rfl
    obtain ⟨h1, h2⟩ := hinj
    simp only [List.cons.injEq, and_true] at h2
    have hi : zs.length - 1 - k' < (zs.map nameOf).length := by simp; omega
    have hz : zs.length - 1 - k' < zs.length := by omega
    have hx2 : x.2 = zs[zs.length - 1 - k'] := by
      rw [← h2]
      show zs[zs.length - 1 - k']?.getD default = _
      simp [hz]
    rw [lastOf_some (bts name) (zs.map nameOf) (zs.length - 1 - k') hi]
    · simp only [List.getElem_map, nameOf]
      rw [hx2]
    · simp only [List.getElem_map, nameOf]
      rw [natsSame_bts, ← hx2]; exact hx
    · intro j hj hij
      simp only [List.length_map] at hj
      simp only [List.getElem_map, nameOf]
      rw [natsSame_bts]
      have hm : Tryz.kn zs zs.length (zs.length - 1 - j) ∈ pre' := by
        rw [← h1]
        simp only [Tryz.upto, List.mem_map, List.mem_range]
        exact ⟨_, by omega, rfl⟩
      have := hne _ hm
      have e : (Tryz.kn zs zs.length (zs.length - 1 - j)).2.1 = zs[j].1 := by
        show (zs[zs.length - 1 - (zs.length - 1 - j)]?.getD default).1 = _
        rw [show zs.length - 1 - (zs.length - 1 - j) = j by omega]
        simp [hj]
      rw [e] at this
      exact this

theorem knownOf_spec (vs : List GVal) : ∀ (n o : Nat) (l : List (List Nat × Int)), knownOf vs n o = some l → l.length = n ∧ ∀ j (hj : j < l.length), vs[o + j * 2]? = some (.str l[j].1) ∧ vs[o + j * 2 + 1]? = some (.int .i64 l[j].2) := by
  intro n
  induction n with
  | zero => intro o l h; simp only [knownOf, Option.some.injEq] at h; subst h; exact ⟨rfl, fun j hj => by simp at hj⟩
  | succ n ih =>
    intro o l h
    simp only [knownOf, nth_eq] at h
    split at h
    · rename_i s m r h1 h2 h3
      cases h
      obtain ⟨hl, hr⟩ := ih _ _ h3
      refine ⟨by simp [hl], fun j hj => ?_⟩
      cases j with
      | zero => simp only [List.getElem_cons_zero, Nat.zero_mul, Nat.add_zero]; exact ⟨h1, h2⟩
      | succ j =>
        have := hr j (by simpa using hj)
        have e : Nat.add o 2 = o + 2 := rfl
        rw [e] at this
        simp only [List.getElem_cons_succ]
        rw [show o + (j + 1) * 2 = o + 2 + j * 2 by omega]
        exact this
    · cases h

theorem pick_list {α : Type} [Inhabited α] (n : Nat) (p : Nat → α → Prop) (h : ∀ j, j < n → ∃ x, p j x) : ∃ zs : List α, zs.length = n ∧ ∀ j (hj : j < zs.length), p j zs[j] := by
  induction n with
  | zero => exact ⟨[], rfl, fun j hj => by simp at hj⟩
  | succ n ih =>
    obtain ⟨zs, hl, hz⟩ := ih fun j hj => h j (by omega)
    obtain ⟨x, hx⟩ := h n (by omega)
    refine ⟨zs ++ [x], by simp [hl], fun j hj => ?_⟩
    simp only [List.length_append, List.length_cons, List.length_nil] at hj
    rcases Nat.lt_or_ge j zs.length with h1 | h1
    · rw [List.getElem_append_left h1]; exact hz j h1
    · have : j = n := by omega
      subst this
      rw [List.getElem_append_right h1]
      simpa [hl] using hx

/-- The names that a slice of the ghost's holds, as the walk of find wants them. -/
theorem known_of {base : Nat} {W0 : World} {Γ : Gam} {gh : GHeap} {w : World} (hW : WRel base W0 Γ gh w) {b r o n off len cap : Nat} {vs : List GVal} {lo : Nat} {gr : Bool} (hb : gh.get b = some (.cells vs lo gr)) (hl : Γ.loc b = some (r, o, n))
    {l : List (List Nat × Int)} (hk : knownOf vs len off = some l) : ∃ zs : List (ByteArray × Int), zs.map nameOf = l ∧ zs.length = len ∧ Tryz.Known w.heap.size w (.slice (some ⟨r, o + off, none⟩) len cap) zs := by
  obtain ⟨hll, hlj⟩ := knownOf_spec vs len off l hk
  obtain ⟨f, hf, h1, hv⟩ := lies_block w hW hb hl
  have hlt : r < w.heap.size := by
    obtain ⟨r', o', n', c, hl', _, hr, _⟩ := (hW.blk b _ hb).2.ex
    rw [hl] at hl'; cases hl'
    obtain ⟨ty, fz, e⟩ := hr.here
    exact heap_lt e
  have hx : ∀ j, j < len → ∃ x : ByteArray × Int, l[j]? = some (nameOf x) ∧ w.cell? ⟨r, o + off + j * 2, none⟩ = some (.string x.1) ∧ w.cell? ⟨r, o + off + j * 2 + 1, none⟩ = some (.int .i64 x.2) := by
    intro j hj
    have hjl : j < l.length := by omega
    obtain ⟨e1, e2⟩ := hlj j hjl
    obtain ⟨hj1, g1⟩ := List.getElem?_eq_some_iff.mp e1
    obtain ⟨hj2, g2⟩ := List.getElem?_eq_some_iff.mp e2
    have v1 := hv _ hj1
    have v2 := hv _ hj2
    have c1 := hf _ hj1
    have c2 := hf _ hj2
    rw [g1] at v1; rw [g2] at v2
    generalize f (off + j * 2) = u1 at v1 c1
    generalize f (off + j * 2 + 1) = u2 at v2 c2
    cases v1 with | str bs _ hbs =>
    cases v2 with | int k m =>
    refine ⟨(bs, l[j].2), ?_, ?_, ?_⟩
    · rw [List.getElem?_eq_getElem hjl]
      simp only [nameOf, bts, Option.some.injEq]
      rw [hbs]
    · rw [Nat.add_assoc]; exact c1
    · rw [show o + off + j * 2 + 1 = o + (off + j * 2 + 1) by omega]; exact c2
  obtain ⟨zs, hzl, hz⟩ := pick_list len _ hx
  refine ⟨zs, ?_, hzl, .inr ⟨r, o + off, cap, by rw [hzl], hlt, fun j hj => ?_⟩⟩
  · apply List.ext_getElem?
    intro j
    rcases Nat.lt_or_ge j zs.length with h | h
    · rw [(hz j h).1]; simp [h]
    · rw [List.getElem?_eq_none (by simpa using h), List.getElem?_eq_none (by omega)]
  · have := (hz j hj).2
    simpa [hj] using this

theorem extFind_ok {C : GCfg} : ExtFor Tryz.prog C 22 extFind := by
  intro args gargs base W0 Γ gh w r hC hs hr hW hx
  unfold extFind at hx
  split at hx
  case h_2 => cases hx
  rename_i k off name
  obtain ⟨x, y, rfl, hx1, hy1⟩ := args_two hs hr
  cases hx1 with | ptr _ pr po pn _ hpl =>
  cases hy1 with | str bn _ hbn =>
  have go : ∀ (a : Option Addr) (len cap : Nat) (zs : List (ByteArray × Int)) (l : List (List Nat × Int)), zs.map nameOf = l → w.cell? ⟨pr, po + off + 2, none⟩ = some (.slice a len cap) → Tryz.Known w.heap.size w (.slice a len cap) zs → zs.length * 24 ≤ 140737488351232 →
      some (foundV (lastOf name l), gh) = some r → EOk Tryz.prog base W0 Γ w (callFunc 22 #[.pointer (some ⟨pr, po + off, none⟩), .string bn]) r := by
    intro a len cap zs l hl hcb hK hz he
    cases he
    refine ⟨_, w, callFunc_enter Tryz.func22 (by kernel_rfl) rfl _ w, ?_⟩
    refine Calls.mono (callsIn_wide.1 (Tryz.find_in Fence.wide 3 trivial trivial trivial rfl (by omega) pr (po + off) a len cap zs bn w hcb hK hz)) ?_
    rintro e w' ⟨⟨v, rfl, hf⟩, hb⟩
    have hv := found_last hf
    have hbe : bts bn = name := hbn
    rw [hbe, hl] at hv
    subst hv
    refine ⟨_, rfl, Γ, Gam.le_refl _, ?_, hW.grow hb⟩
    cases lastOf name l with
    | none => exact .tuple _ _ rfl (fun i hi => by
        match i, hi with
        | 0, _ => exact .int _ _
        | 1, _ => exact .bool _)
    | some m => exact .tuple _ _ rfl (fun i hi => by
        match i, hi with
        | 0, _ => exact .int _ _
        | 1, _ => exact .bool _)
  cases hb : gh.get k with
  | none => simp [hb] at hx
  | some blk =>
    cases blk with
    | cells vals lo gr =>
      simp only [hb, nth_eq] at hx
      obtain ⟨f, hf, h1, hv⟩ := lies_block w hW hb hpl
      split at hx
      · rename_i hn
        obtain ⟨hj, g⟩ := List.getElem?_eq_some_iff.mp hn
        have c := hf _ hj
        have v := hv _ hj
        rw [g] at v
        generalize f (Nat.add off 2) = u at c v
        cases v
        exact go none 0 0 [] [] rfl (by rw [Nat.add_assoc]; exact c) (.inl ⟨rfl, rfl⟩) (by simp) (by simpa [lastOf] using hx)
      · rename_i b o n hn
        obtain ⟨hj, g⟩ := List.getElem?_eq_some_iff.mp hn
        have c := hf _ hj
        have v := hv _ hj
        rw [g] at v
        generalize f (Nat.add off 2) = u at c v
        cases v with | hsl _ br bo bn' _ _ cap _ hbl hz hcap hbn' =>
        split at hx
        · rename_i vs lo' gr' hb'
          cases hle : Nat.ble n 1000000000000 with
          | false => rw [hle] at hx; cases hx
          | true =>
            rw [hle] at hx
            simp only [cond_true] at hx
            unfold findIn2 at hx
            split at hx
            · rename_i l hk
              obtain ⟨zs, hzl, hzn, hK⟩ := known_of (cap := cap) hW hb' hbl hk
              have hn' : n ≤ 1000000000000 := Nat.le_of_ble_eq_true hle
              exact go _ n cap zs l hzl (by rw [Nat.add_assoc]; exact c) hK (by omega) hx
            · cases hx
        · cases hx
      · cases hx
    | tip a => simp [hb] at hx
    | map es => simp [hb] at hx
    | dead => simp [hb] at hx
end Go.Gh
