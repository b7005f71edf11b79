/-
  The ghost machine: an interpreter over abstract values, and the proof that what it finds the program does. No claim is proved here; no conditions.
-/
import Derived.Test.YteoanmcpnabgjaaGreatDoorGhostC
import Derived.Test.YteoanmcpnabgjaaGreatDoorGhostA
import Derived.Lib.Index
import Derived.Lib.Bytealg
import Derived.Laws.Externs

/-
  THE GHOST MACHINE: a region that draws its order: one operation's turn, the sum.
  No claim is proved here.
-/
namespace Go.Gh

section
variable {E : GEnv} {call : CallF} {l : List GOper} {T : Nat → GFr} {H : Nat → GHeap} {V : Nat → GVal} {es : List (List Nat)} {chk : List (Nat × Nat)} {sw : Option (Nat × Nat)} {S : Nat → Prop}

theorem HI.more {h : GHeap} (hh : HI E call l T H V S h) {i : Nat} (hi : i < l.length) (hk : l[i].op.kind ≠ 2) : HI E call l T H V (fun j => S j ∨ j = i) h := by
  cases hh with
  | plain p hp e hs =>
    refine .plain p hp e fun j hj hkj => ?_
    have hne : j ≠ i := fun e => by subst e; exact hk hkj
    exact ⟨fun h => (hs j hj hkj).1 (h.resolve_right hne), fun h => .inl ((hs j hj hkj).2 h)⟩
  | swapped x hx hkx hnx hall hw hgo =>
    have hne : x ≠ i := fun e => by subst e; exact hk hkx
    exact .swapped x hx hkx (fun h => hnx (h.resolve_right hne)) (fun k hk h0 h1 => .inl (hall k hk h0 h1)) hw hgo

theorem kindsOk_12 {i j : Nat} {oi oj : GOper} (h : kindsOk chk sw i j oi oj = true) (h1 : oi.op.kind = 1) (h2 : oj.op.kind = 2) : hasN i j chk = true := by
  unfold kindsOk at h; rw [h1, h2] at h; exact h
theorem kindsOk_22 {i j : Nat} {oi oj : GOper} (h : kindsOk chk sw i j oi oj = true) (h1 : oi.op.kind = 2) (h2 : oj.op.kind = 2) : sw = some (i, j) ∨ sw = some (j, i) := by
  unfold kindsOk at h; rw [h1, h2] at h
  simp only at h
  unfold swIs at h
  split at h
  · rename_i p
    simp only [Bool.or_eq_true, Bool.and_eq_true] at h
    obtain ⟨a, b⟩ := p
    rcases h with ⟨h1, h2⟩ | ⟨h1, h2⟩
    · have e1 : a = i := Nat.eq_of_beq_eq_true h1
      have e2 : b = j := Nat.eq_of_beq_eq_true h2
      exact .inl (by rw [e1, e2])
    · have e1 : a = j := Nat.eq_of_beq_eq_true h1
      have e2 : b = i := Nat.eq_of_beq_eq_true h2
      exact .inr (by rw [e1, e2])
  · cases h

theorem Seq.heap_eq (hs : Seq E call l T H V) {p q : Nat} (hp : p ≤ l.length) (hq : q ≤ l.length) (h : ∀ e (he : e < l.length), l[e].op.kind = 2 → ¬ (p ≤ e ∧ e < q) ∧ ¬ (q ≤ e ∧ e < p)) : H p = H q := by
  rcases Nat.le_total p q with hpq | hpq
  · exact (hs.same_heap q hpq hq fun i hi h1 h2 h3 => (h i hi h3).1 ⟨h1, h2⟩).symm
  · exact hs.same_heap p hpq hp fun i hi h1 h2 h3 => (h i hi h3).2 ⟨h1, h2⟩

theorem turn (hs : Seq E call l T H V) (st : Stat es l (befG es 0 []) chk sw) (hlen : es.length = l.length) {hl : List GHeap} (hhl : ∀ k, k ≤ l.length → hl[k]? = some (H k)) (hck : chkAll l (T l.length) hl chk = true)
    (hswc : chkSw l (T l.length) sw = true) (hC : Closed es S) {i : Nat} (hi : i < l.length) (hni : ¬ S i) (hr : ∀ (e : List Nat), es[i]? = some e → ∀ k ∈ e, S k) {t : GFr} (hcur : Cur l T V S t) {h : GHeap} (hh : HI E call l T H V S h) :
    (wanted t l[i].guard = true ∧ ∃ h', gOp E call h (GArg.get t) l[i].op = some (V i, h') ∧ HI E call l T H V (fun j => S j ∨ j = i) h') ∨
    (wanted t l[i].guard = false ∧ V i = gundef ∧ HI E call l T H V (fun j => S j ∨ j = i) h) := by
  have hord : ∀ j (hj : j < l.length), j ≠ i → cmpG (befG es 0 []) i j = true → (S j ↔ j < i) := fun j hj hne hc => ord hlen hC hi hj (Ne.symm hne) hni hr hc
  have hagr : Agree t (T i) l[i].looks := hcur.agree hs st.dist hi hni fun j hj hne => by
    rcases st.pair i j hi hj (Ne.symm hne) with hc | hc
    · exact .inr (hord j hj hne hc)
    · exact .inl hc.1
  have hg := guard_agree hagr
  have hsl : Agree t (T i) l[i].op.slots := by
    have := hagr
    unfold GOper.looks at this
    exact this.left
  have hop : ∀ g, gOp E call g (GArg.get t) l[i].op = gOp E call g (GArg.get (T i)) l[i].op := fun g => op_agree E call g hsl
  rw [hg]
  -- an effect, all others in the text's order
  have plainEff : ∀ p, p ≤ l.length → (∀ e (he : e < l.length), l[e].op.kind = 2 → (S e ↔ e < p)) → l[i].op.kind = 2 → (∀ e (he : e < l.length), l[e].op.kind = 2 → e ≠ i → (S e ↔ e < i)) →
      H p = H i ∧ HI E call l T H V (fun j => S j ∨ j = i) (H (i + 1)) := fun p hp hps hk2 hall => by
    refine ⟨hs.heap_eq hp (by omega) fun e he hke => ?_, .plain (i + 1) (by omega) rfl fun e he hke => ?_⟩
    · by_cases hei : e = i
      · subst hei
        exact ⟨fun h => by omega, fun h => hni ((hps e he hke).2 h.2)⟩
      · have h1 := hps e he hke
        have h2 := hall e he hke hei
        exact ⟨fun h => absurd (h1.1 (h2.2 h.2)) (by omega), fun h => absurd (h2.1 (h1.2 h.2)) (by omega)⟩
    · by_cases hei : e = i
      · subst hei; exact ⟨fun _ => by omega, fun _ => .inr rfl⟩
      · have h2 := hall e he hke hei
        exact ⟨fun h => by have := h2.1 (h.resolve_right hei); omega, fun h => .inl (h2.2 (by omega))⟩
  cases hw : wanted (T i) l[i].guard with
  | false =>
    refine .inr ⟨rfl, (hs.no i hi hw).1, ?_⟩
    by_cases hk2 : l[i].op.kind = 2
    · cases hh with
      | plain p hp e hps =>
        subst e
        by_cases hall : ∀ e (he : e < l.length), l[e].op.kind = 2 → e ≠ i → (S e ↔ e < i)
        · obtain ⟨h1, h2⟩ := plainEff p hp hps hk2 hall
          rw [h1, ← (hs.no i hi hw).2]; exact h2
        · exfalso
          apply hall
          intro e he hke hei
          rcases st.pair i e hi he (Ne.symm hei) with hc | hc
          · exact hord e he hei hc
          · exfalso
            have hgn : l[i].guard = none := by
              rcases kindsOk_22 hc.2 hk2 hke with hsw | hsw
              · rw [hsw] at hswc
                unfold chkSw at hswc
                simp only [nth_eq, List.getElem?_eq_getElem hi, List.getElem?_eq_getElem he] at hswc
                cases hst : storeAt? l[i] (T l.length) with
                | none => simp [hst] at hswc
                | some k => exact (storeAt_spec hst).1
              · rw [hsw] at hswc
                unfold chkSw at hswc
                simp only [nth_eq, List.getElem?_eq_getElem hi, List.getElem?_eq_getElem he] at hswc
                cases hst : storeAt? l[i] (T l.length) with
                | none => simp [hst] at hswc
                | some k => exact (storeAt_spec hst).1
            rw [hgn] at hw; cases hw
      | swapped x hx hkx hnx hall hwx hgo =>
        have : i = x := by
          by_cases e : i = x
          · exact e
          · exact absurd (hall i hi (by rw [hk2]; decide) e) hni
        subst this
        rw [hwx] at hw; cases hw
    · exact hh.more hi hk2
  | true =>
    refine .inl ⟨rfl, ?_⟩
    have hyes := hs.yes i hi hw
    by_cases hk2 : l[i].op.kind = 2
    · cases hh with
      | swapped x hx hkx hnx hall hwx hgo =>
        have : i = x := by
          by_cases e : i = x
          · exact e
          · exact absurd (hall i hi (by rw [hk2]; decide) e) hni
        subst this
        refine ⟨H l.length, by rw [hop]; exact hgo, .plain l.length (Nat.le_refl _) rfl fun e he hke => ⟨fun _ => he, fun _ => ?_⟩⟩
        by_cases hei : e = i
        · exact .inr hei
        · exact .inl (hall e he (by rw [hke]; decide) hei)
      | plain p hp e hps =>
        subst e
        by_cases hall : ∀ e (he : e < l.length), l[e].op.kind = 2 → e ≠ i → (S e ↔ e < i)
        · obtain ⟨h1, h2⟩ := plainEff p hp hps hk2 hall
          exact ⟨H (i + 1), by rw [hop, h1]; exact hyes, h2⟩
        · -- a store ahead of the one that stands before it
          have : ∃ x, x < l.length ∧ sw = some (x, i) ∧ ¬ S x := by
            apply Classical.byContradiction
            intro hno
            apply hall
            intro e he hke hei
            rcases st.pair i e hi he (Ne.symm hei) with hc | hc
            · exact hord e he hei hc
            · rcases kindsOk_22 hc.2 hk2 hke with hsw | hsw
              · have hlt := (st.sw _ hsw).1
                simp only at hlt
                have hnS : ¬ S e := fun h => hni ((hps i hi hk2).2 (by have := (hps e he hke).1 h; omega))
                exact ⟨fun h => absurd h hnS, fun h => by omega⟩
              · have hlt := (st.sw _ hsw).1
                simp only at hlt
                refine ⟨fun _ => hlt, fun _ => ?_⟩
                apply Classical.byContradiction
                intro hnS
                exact hno ⟨e, he, hsw, hnS⟩
          obtain ⟨x, hx, hsw, hnx⟩ := this
          obtain ⟨hxi, _, hfx, hfi, hoth⟩ := st.sw _ hsw
          simp only at hxi hfx hfi hoth
          have hSk : ∀ k (hk : k < l.length), l[k].op.kind ≠ 0 → k ≠ x → k ≠ i → S k := fun k hk h0 h1 h2 => bits hlen hC hi hr k (hoth k hk h0 h1 h2).2.2
          have hHp : H p = H x := hs.heap_eq hp (by omega) fun e he hke => by
            have h0 : l[e].op.kind ≠ 0 := by rw [hke]; decide
            have h1 := hps e he hke
            refine ⟨fun h => ?_, fun h => ?_⟩
            · have := h1.1 (hSk e he h0 (by omega) (by omega)); omega
            · have hS := h1.2 h.2
              have hne : e ≠ x := fun e' => by subst e'; exact hnx hS
              have hne' : e ≠ i := fun e' => by subst e'; exact hni hS
              have := (hoth e he h0 hne hne').1; omega
          have hHi : H i = H (x + 1) := hs.heap_eq (by omega) (by omega) fun e he hke => by
            have h0 : l[e].op.kind ≠ 0 := by rw [hke]; decide
            refine ⟨fun h => by omega, fun h => ?_⟩
            have := (hoth e he h0 (by omega) (by omega)).1; omega
          have hHn : H l.length = H (i + 1) := hs.heap_eq (Nat.le_refl _) (by omega) fun e he hke => by
            have h0 : l[e].op.kind ≠ 0 := by rw [hke]; decide
            refine ⟨fun h => by omega, fun h => ?_⟩
            have := (hoth e he h0 (by omega) (by omega)).1; omega
          rw [hsw] at hswc
          unfold chkSw at hswc
          simp only [nth_eq, List.getElem?_eq_getElem hi, List.getElem?_eq_getElem hx] at hswc
          cases hsx : storeAt? l[x] (T l.length) with
          | none => simp [hsx] at hswc
          | some k =>
            cases hsi : storeAt? l[i] (T l.length) with
            | none => simp [hsx, hsi] at hswc
            | some k' =>
              simp only [hsx, hsi, Bool.not_eq_true'] at hswc
              have hkk : k ≠ k' := fun e => by subst e; rw [Nat.beq_refl] at hswc; cases hswc
              obtain ⟨hgx, n1, a1, x1, o1, hox, ha1⟩ := storeAt_spec hsx
              obtain ⟨hgi, n2, a2, x2, o2, hoi, ha2⟩ := storeAt_spec hsi
              have hax := hs.final_agree hx (hfx hx)
              have hai := hs.final_agree hi (hfi hi)
              have hwx : wanted (T x) l[x].guard = true := by rw [hgx]; rfl
              have hyx := hs.yes x hx hwx
              unfold GOper.looks at hax hai
              rw [hox] at hax hyx
              rw [hoi] at hai hyes
              obtain ⟨hvx, hstx⟩ := gOp_store hyx
              obtain ⟨hvi, hsti⟩ := gOp_store hyes
              have e1 : a1.get (T x) = .ptr k o1 := by rw [← arg_agree hax.left.left]; exact ha1
              have e2 : a2.get (T i) = .ptr k' o2 := by rw [← arg_agree hai.left.left]; exact ha2
              rw [e1] at hstx
              rw [e2, hHi] at hsti
              obtain ⟨h1', hs1, hs2⟩ := swap_stores hkk hstx hsti
              refine ⟨h1', ?_, .swapped x hx (by rw [hox]; rfl) (fun h => hnx (h.resolve_right (by omega))) (fun k hk h0 h1 => ?_) hwx ?_⟩
              · rw [hop, hHp, hoi, hvi]
                exact gOp_store' (by rw [e2]; exact hs1)
              · by_cases hki : k = i
                · exact .inr hki
                · exact .inl (hSk k hk h0 h1 hki)
              · rw [hox, hvx, hHn]
                exact gOp_store' (by rw [e1]; exact hs2)
    · by_cases hk1 : l[i].op.kind = 1
      · cases hh with
        | swapped x hx hkx hnx hall hwx hgo =>
          exact absurd (hall i hi (by rw [hk1]; decide) (fun e => by subst e; rw [hk1] at hkx; cases hkx)) hni
        | plain p hp e hps =>
          have hread := read_any hs st hhl hck hi hk1 hw p hp fun e' he hke hbt => by
            have hei : e' ≠ i := fun e'' => by subst e''; rw [hk1] at hke; cases hke
            rcases st.pair i e' hi he (Ne.symm hei) with hc | hc
            · exfalso
              have h1 := hord e' he hei hc
              have h2 := hps e' he hke
              rcases hbt with hb | hb
              · have := h2.1 (h1.2 hb.2); omega
              · have := h1.1 (h2.2 hb.2); omega
            · exact kindsOk_12 hc.2 hk1 hke
          refine ⟨h, ?_, (HI.plain p hp e hps : HI E call l T H V S h).more hi hk2⟩
          subst e
          rw [hop]
          cases ho : l[i].op with
          | p o => rw [ho] at hk1; cases hk1
          | e o => rw [ho] at hk2; exact absurd rfl hk2
          | r o =>
            rw [ho] at hread
            simp only [readAgain] at hread
            simp only [gOp, hread, withH]
      · refine ⟨h, ?_, hh.more hi hk2⟩
        rw [hop]
        cases ho : l[i].op with
        | r o => rw [ho] at hk1; exact absurd rfl hk1
        | e o => rw [ho] at hk2; exact absurd rfl hk2
        | p o =>
          rw [ho] at hyes
          simp only [gOp] at hyes ⊢
          cases hv : gPure o (GArg.get (T i)) with
          | none => simp [hv, withH] at hyes
          | some v =>
            simp only [hv, withH, Option.some.injEq, Prod.mk.injEq] at hyes ⊢
            exact ⟨hyes.1, trivial⟩
end
end Go.Gh

/-
  THE GHOST MACHINE: a region that draws its order is sound.
  No claim is proved here.
-/
namespace Go.Gh

section
variable {P : Program} {C : GCfg}

theorem gOpers_get (ops : Array Oper) : ∀ (rest : List Oper) (i : Nat) (l : List GOper), gOpers P C ops i rest = some l → l.length = rest.length ∧
    ∀ j (h1 : j < rest.length) (h2 : j < l.length), ∃ g gd, gOpOf P C (i + j) rest[j] = some g ∧ gGuard ops rest[j].guard = some gd ∧ l[j] = { dst := rest[j].dst.map pth, op := g, guard := gd } := by
  intro rest
  induction rest with
  | nil => intro i l h; simp only [gOpers, Option.some.injEq] at h; subst h; exact ⟨rfl, fun j h1 => absurd h1 (Nat.not_lt_zero _)⟩
  | cons o rest ih =>
    intro i l h
    simp only [gOpers] at h
    split at h
    · rename_i g gd r hg hgd hr
      simp only [Option.some.injEq] at h; subst h
      obtain ⟨hl, hh⟩ := ih (i + 1) r hr
      refine ⟨by simp [hl], fun j h1 h2 => ?_⟩
      cases j with
      | zero => exact ⟨g, gd, hg, hgd, rfl⟩
      | succ j =>
        obtain ⟨g', gd', e1, e2, e3⟩ := hh j (by simpa using h1) (by simpa using h2)
        exact ⟨g', gd', by rw [show i + (j + 1) = i + 1 + j by omega]; exact e1, e2, e3⟩
    · cases h

theorem mem_edges {o : Oper} {k : Nat} : k ∈ edgesOf o ↔ ∃ e ∈ o.after, Region.binds .any e = true ∧ e.on = k := by
  unfold edgesOf
  simp only [List.mem_map, List.mem_filter, Array.mem_toList_iff]
  constructor
  · rintro ⟨e, ⟨h1, h2⟩, h3⟩; exact ⟨e, h1, h2, h3⟩
  · rintro ⟨e, h1, h2, h3⟩; exact ⟨e, ⟨h1, h2⟩, h3⟩

theorem draws (E : GEnv) (call : CallF) (hT : Told P C E call) : Draws P C E call := by
  intro base W0 N Γ hp id ops Q l chk sw ts gh a w s hl hst hd hC hA hW hdraw hQ
  obtain ⟨hlen, hget⟩ := gOpers_get ops ops.toList 0 l hl
  have hn : l.length = ops.size := by rw [hlen]; simp
  have st := stat_of hst
  have hes : (ops.toList.map edgesOf).length = l.length := by rw [hn]; simp
  have hesg : ∀ (i : Nat) (e : List Nat), (ops.toList.map edgesOf)[i]? = some e ↔ ∃ o, ops[i]? = some o ∧ e = edgesOf o := fun i e => by
    rw [List.getElem?_map, Array.getElem?_toList]
    cases ops[i]? with
    | none => simp
    | some o => simp [eq_comm]
  unfold gDrawC at hdraw
  simp only at hdraw
  cases hr : gOpsT E call l ts gh with
  | none => rw [hr] at hdraw; cases hdraw
  | some r =>
    obtain ⟨tsF, ghF, hsl⟩ := r
    rw [hr] at hdraw
    simp only [chkC] at hdraw
    cases hck : (chkAll l tsF hsl chk && chkSw l tsF sw) with
    | false => rw [hck] at hdraw; cases hdraw
    | true =>
      rw [hck] at hdraw
      simp only [cond_true, Option.some.injEq, Prod.mk.injEq, true_and] at hdraw
      subst hdraw
      simp only [Bool.and_eq_true] at hck
      obtain ⟨T, H, V, eT0, eH0, eT, eH, hhl, hs⟩ := seq_of l ts gh tsF ghF hsl hr
      rw [← eT] at hck
      refine wp_region_any hT.mixed ?_
      have key : ∀ (fuel : Nat) (listed : Array Bool) (Γ' : Gam) (a' : Act) (t : GFr) (h : GHeap) (w' : World), listed.size = ops.size → listed.toList.count false = fuel → Γ.le Γ' → Closed (ops.toList.map edgesOf) (fun j => listed.getD j false = true) →
          Cur l T V (fun j => listed.getD j false = true) t → HI E call l T H V (fun j => listed.getD j false = true) h → AR N Γ' a' t → WRel base W0 Γ' h w' → wpAny P .any ops Q fuel listed a' w' := by
        -- all are done
        have fin : ∀ (listed : Array Bool) (Γ' : Gam) (a' : Act) (t : GFr) (h : GHeap) (w' : World), Γ.le Γ' → (∀ i, i < l.length → listed.getD i false = true) → Cur l T V (fun j => listed.getD j false = true) t →
            HI E call l T H V (fun j => listed.getD j false = true) h → AR N Γ' a' t → WRel base W0 Γ' h w' → Q .normal a' w' := by
          intro listed Γ' a' t h w' hle hall hcur hhi hA' hW'
          have hh : h = ghF := by
            cases hhi with
            | plain p hp e hps =>
              rw [e, ← eH]
              exact hs.heap_eq hp (Nat.le_refl _) fun e he hk => ⟨fun h => by have := (hps e he hk).1 (hall e he); omega, fun h => by omega⟩
            | swapped x hx hkx hnx _ _ _ => exact absurd (hall x hx) hnx
          subst hh
          refine hQ a' w' ⟨Γ', hle, ⟨⟨fun i => ?_, hA'.rel.def_⟩, hA'.size⟩, hW'⟩
          have := hA'.rel.tmp i
          rw [hcur.all hs st.dist hall, eT] at this
          exact this
        -- who waits for nobody is ready
        have least : ∀ (listed : Array Bool), listed.size = ops.size → Region.ready .any ops listed = [] → ∀ i, i < l.length → listed.getD i false = true := by
          intro listed hsz hrd i
          induction i using Nat.strongRecOn with
          | _ i ih =>
            intro hi
            cases hb : listed.getD i false with
            | true => rfl
            | false =>
              exfalso
              have hi' : i < ops.size := by omega
              have : i ∈ Region.ready .any ops listed := by
                rw [mem_ready]
                refine ⟨?_, ops[i], Array.getElem?_eq_getElem hi', fun e he hbd => ?_⟩
                · have hil : i < listed.size := by omega
                  simp only [Array.getD_eq_getD_getElem?, Array.getElem?_eq_getElem hil, Option.getD_some] at hb ⊢
                  exact hb
                · have hk : e.on < i := st.edge i (edgesOf ops[i]) ((hesg i _).2 ⟨_, Array.getElem?_eq_getElem hi', rfl⟩) e.on (mem_edges.2 ⟨e, he, hbd, rfl⟩)
                  exact ih e.on hk (by omega)
              rw [hrd] at this; cases this
        intro fuel
        induction fuel with
        | zero =>
          intro listed Γ' a' t h w' hsz hcnt hle hcl hcur hhi hA' hW'
          have hall : ∀ i, i < l.length → listed.getD i false = true := fun i hi => by
            have hi' : i < listed.size := by omega
            have hnm : false ∉ listed.toList := List.count_eq_zero.mp hcnt
            have hm : listed[i] ∈ listed.toList := by simp
            simp only [Array.getD_eq_getD_getElem?, Array.getElem?_eq_getElem hi', Option.getD_some]
            cases hb : listed[i] with
            | true => rfl
            | false => rw [hb] at hm; exact absurd hm hnm
          refine ⟨?_, fin listed Γ' a' t h w' hle hall hcur hhi hA' hW'⟩
          apply List.eq_nil_iff_forall_not_mem.mpr
          intro i hi
          obtain ⟨h0, o, ho, _⟩ := mem_ready.1 hi
          have hi' : i < ops.size := (Array.getElem?_eq_some_iff.1 ho).1
          have h1 := hall i (by omega)
          have hil : i < listed.size := by omega
          simp only [Array.getD_eq_getD_getElem?, Array.getElem?_eq_getElem hil, Option.getD_some] at h0 h1
          rw [h0] at h1; cases h1
        | succ fuel ih =>
          intro listed Γ' a' t h w' hsz hcnt hle hcl hcur hhi hA' hW'
          refine ⟨fun hrd => fin listed Γ' a' t h w' hle (least listed hsz hrd) hcur hhi hA' hW', fun i hi => ?_⟩
          obtain ⟨h0, o, ho, hed⟩ := mem_ready.1 hi
          have hi' : i < ops.size := (Array.getElem?_eq_some_iff.1 ho).1
          have hil : i < l.length := by omega
          have hli : i < listed.size := by omega
          have hot : i < ops.toList.length := by simpa using hi'
          have h0' : listed[i] = false := by simpa [Array.getD_eq_getD_getElem?, Array.getElem?_eq_getElem hli] using h0
          have hoo : ops.toList[i] = o := by
            rw [Array.getElem?_eq_getElem hi'] at ho
            simpa using ho
          obtain ⟨g, gd, hg, hgd, hli2⟩ := hget i hot hil
          rw [hoo] at hg hgd hli2
          rw [Nat.zero_add] at hg
          have hready : ∀ (e : List Nat), (ops.toList.map edgesOf)[i]? = some e → ∀ k ∈ e, listed.getD k false = true := fun e he k hk => by
            obtain ⟨o', ho', rfl⟩ := (hesg i e).1 he
            rw [ho] at ho'; cases ho'
            obtain ⟨ed, h1, h2, rfl⟩ := mem_edges.1 hk
            exact hed ed h1 h2
          have hni : ¬ (listed.getD i false = true) := by
            simp [Array.getD_eq_getD_getElem?, Array.getElem?_eq_getElem hli, h0']
          have hS : (fun j => (listed.setIfInBounds i true).getD j false = true) = fun j => listed.getD j false = true ∨ j = i := by
            funext j
            apply propext
            by_cases e : j = i
            · subst e; simp [hli]
            · simp only [e, or_false]
              rw [getD_set_ne false (Ne.symm e)]
          have hcount : (listed.setIfInBounds i true).toList.count false = fuel := by
            rw [Array.toList_setIfInBounds, List.count_set (by simpa using hli)]
            have : listed.toList[i]'(by simpa using hli) = false := by simpa using h0'
            rw [this, hcnt]
            simp
          have hcl' : Closed (ops.toList.map edgesOf) (fun j => (listed.setIfInBounds i true).getD j false = true) := by
            rw [hS]
            intro j e he hj k hk
            rcases hj with hj | rfl
            · exact .inl (hcl j e he hj k hk)
            · exact .inl (hready e he k hk)
          have hdi : ∀ d, o.dst = some d → d < N := hd o (by rw [← hoo]; exact List.getElem_mem hot)
          have hCΓ : CfgOK P { C with heap := hp } Γ' := hC.mono hle
          have hT' : Told P { C with heap := hp } E call := hT.heap hp
          have hcur' := hcur.step st.dist hil
          unfold wpOp
          simp only [ho]
          rw [guard_rel hA'.rel hgd]
          have hgdl : l[i].guard = gd := by rw [hli2]
          have hopl : l[i].op = g := by rw [hli2]
          have hdl : l[i].dst = o.dst.map pth := by rw [hli2]
          rcases turn hs st hes hhl hck.1 hck.2 hcl hil hni hready hcur hhi with ⟨hw1, h', hgo, hhi'⟩ | ⟨hw1, hv, hhi'⟩
          · rw [hgdl] at hw1
            rw [hw1]
            simp only [if_true]
            rw [hopl] at hgo
            refine .inl ((op_sound hCΓ hA'.rel hW' hT'.meth hT'.call i o g hg _ hgo).wp _ _ fun v w'' hans => ?_)
            obtain ⟨Γ'', hle', hvr, hW''⟩ := hans
            refine ih _ Γ'' _ _ h' w'' (by simpa using hsz) hcount (hle.trans hle') hcl' ?_ ?_ ((hA'.mono hle').put o.dst hdi hvr) hW''
            · rw [hS, ← hdl]; exact hcur'
            · rw [hS]; exact hhi'
          · rw [hgdl] at hw1
            rw [hw1]
            simp only [Bool.false_eq_true, if_false]
            refine ih _ Γ' _ _ h w' (by simpa using hsz) hcount hle hcl' ?_ ?_ (hA'.put o.dst hdi (.undef Γ')) hW'
            · rw [hS, ← hdl, ← hv]; exact hcur'
            · rw [hS]; exact hhi'
      refine key ops.size (Array.replicate ops.size false) Γ a ts gh { w with drawn := w.drawn + 1 } (by simp) (by simp) (Gam.le_refl _) ?_ ?_ ?_ hA (hW.same rfl rfl rfl rfl)
      · intro i e he hS; exfalso
        simp only [Array.getD_eq_getD_getElem?, Array.getElem?_replicate] at hS
        split at hS <;> simp at hS
      · rw [← eT0]
        refine Cur.start _ fun i hS => ?_
        simp only [Array.getD_eq_getD_getElem?, Array.getElem?_replicate] at hS
        split at hS <;> simp at hS
      · refine .plain 0 (Nat.zero_le _) eH0.symm fun e he hk => ⟨fun hS => ?_, fun h => by omega⟩
        simp only [Array.getD_eq_getD_getElem?, Array.getElem?_replicate] at hS
        split at hS <;> simp at hS
end
end Go.Gh

/-
  THE GHOST MACHINE: what the ghost reckons, the program does, in every world and under every tape.
  No claim is proved here.
-/
namespace Go.Gh

/-- All that is told of a program. -/
structure Fits (P : Program) (C : GCfg) (E : GEnv) : Prop where
  fn : EnvFn P C E
  ext : ExtOK P C E
  meth : MethOK P C E
  mixed : P.follows .mixedOrders = true

theorem sound {P : Program} {C : GCfg} {E : GEnv} (h : Fits P C E) (n : Nat) : CallOK P C (gCall E n) :=
  gCall_sound h.fn h.ext h.meth h.mixed (fun _ call hT => draws E call hT) n

/-- No memory at all. -/
def Gam.none : Gam := ⟨fun _ => Option.none, fun _ => Option.none, fun _ _ => Option.none, fun _ => Option.none⟩
theorem wrel_empty (w : World) : WRel w.heap.size w Gam.none .empty w := by
  refine ⟨⟨rfl, rfl, rfl, Nat.le_refl _, fun _ _ => rfl⟩, Nat.le_refl _, fun r o v e => by simp [Gam.none] at e, fun _ _ => rfl, fun _ _ => rfl, fun k b e => ?_, fun k k' b b' r _ e => ?_⟩
  · have hn : ∀ p, Tr.get p (Tr.nil : Tr GBlock) = Option.none := fun p => by
      induction p with
      | e => rfl
      | l p ih => exact ih
      | r p ih => exact ih
    simp [GHeap.get, GHeap.empty, hn] at e
  · have hn : ∀ p, Tr.get p (Tr.nil : Tr GBlock) = Option.none := fun p => by
      induction p with
      | e => rfl
      | l p ih => exact ih
      | r p ih => exact ih
    simp [GHeap.get, GHeap.empty, hn] at e
end Go.Gh

/-
  THE GHOST MACHINE, FOURTH TEXT: functions of which the ghost knows the answer by a rule of its own; a table of ghosts.
  No claim is proved here.
-/
namespace Go.Gh
noncomputable section
inductive FTree where
  | leaf
  | node (k : Nat) (f : GFunc) (l r : FTree)
def FTree.find : FTree → Nat → Option GFunc
  | .leaf, _ => none
  | .node k f l r, n => bif Nat.beq n k then some f else bif Nat.blt n k then l.find n else r.find n
def prefixOf : List Nat → List Nat → Bool
  | [], _ => true
  | a :: x, b :: y => Nat.beq a b && prefixOf x y
  | _, _ => false
def indexOf (t : List Nat) : List Nat → Nat → Int
  | [], i => bif t.isEmpty then .ofNat i else .negSucc 0
  | b :: s, i => bif prefixOf t (b :: s) then .ofNat i else indexOf t s (Nat.succ i)
def indexByte (b : Nat) : List Nat → Nat → Int
  | [], _ => .negSucc 0
  | c :: s, i => bif Nat.beq c b then .ofNat i else indexByte b s (Nat.succ i)
abbrev Ext := List GVal → GHeap → Option (GVal × GHeap)
def extIndex : Ext := fun args h => match args with | [.str s, .str t] => bif Nat.blt s.length 4294967281 then some (.int .i64 (indexOf t s 0), h) else none | _ => none
def extIndexByte : Ext := fun args h => match args with | [.str s, .int .u8 (.ofNat b)] => bif Nat.blt b 256 then some (.int .i64 (indexByte b s 0), h) else none | _ => none
/-- The names and numbers in n pairs of cells. -/
def knownOf (vs : List GVal) : Nat → Nat → Option (List (List Nat × Int))
  | 0, _ => some []
  | n + 1, o =>
    match nth vs o, nth vs (Nat.succ o), knownOf vs n (Nat.add o 2) with
    | some (.str s), some (.int .i64 m), some r => some ((s, m) :: r)
    | _, _, _ => none
/-- The last pair of that name. -/
def lastOf (name : List Nat) : List (List Nat × Int) → Option Int
  | [] => none
  | p :: r => match lastOf name r with | some v => some v | none => bif natsSame p.1 name then some p.2 else none
def foundV (r : Option Int) : GVal := match r with | some m => .tuple [.int .i64 m, .bool true] | none => .tuple [.int .i64 (.ofNat 0), .bool false]
def findIn2 (h : GHeap) (name : List Nat) (l : Option (List (List Nat × Int))) : Option (GVal × GHeap) := match l with | some l => some (foundV (lastOf name l), h) | none => none
def extFind : Ext := fun args h =>
  match args with
  | [.ptr k off, .str name] =>
    match h.get k with
    | some (.cells vals _ _) =>
      match nth vals (Nat.add off 2) with
      | some .nils => some (foundV none, h)
      | some (.hsl b o n 2) =>
        match h.get b with
        | some (.cells vs _ _) => bif Nat.ble n 1000000000000 then findIn2 h name (knownOf vs n o) else none
        | _ => none
      | _ => none
    | _ => none
  | _ => none
def isTrue : Option (GVal × GHeap) → Bool | some (.bool true, _) => true | _ => false
end
end Go.Gh

/-
  THE GHOST MACHINE: functions whose answer is known by a contract.
  No claim is proved here.
-/
namespace Go.Gh

theorem prefixOf_eq : ∀ (t l : List UInt8), prefixOf (t.map (·.toNat)) (l.map (·.toNat)) = t.isPrefixOf l := by
  intro t
  induction t with
  | nil => intro l; cases l <;> simp [prefixOf]
  | cons a t ih =>
    intro l
    cases l with
    | nil => simp [prefixOf]
    | cons b l =>
      simp only [List.map_cons, prefixOf, ih, List.isPrefixOf]
      congr 1
      rw [beq_bool]
      by_cases h : a = b
      · subst h; simp
      · have : ¬ a.toNat = b.toNat := fun e => h (UInt8.toNat_inj.mp e)
        simp [this, h]

theorem indexOf_eq (t : List UInt8) : ∀ (l : List UInt8) (i : Nat), indexOf (t.map (·.toNat)) (l.map (·.toNat)) i = if Lib.index l t = -1 then -1 else Lib.index l t + i := by
  intro l
  induction l with
  | nil =>
    intro i
    simp only [List.map_nil, indexOf, Lib.index]
    cases t with
    | nil => simp
    | cons a t => rfl
  | cons b l ih =>
    intro i
    have hp := prefixOf_eq t (b :: l)
    by_cases h : t.isPrefixOf (b :: l) = true
    · have e : Lib.index (b :: l) t = 0 := by rw [Lib.index, if_pos h]
      rw [e]
      simp only [List.map_cons] at hp
      simp only [List.map_cons, indexOf, hp, h, cond_true]
      simp
    · have e : Lib.index (b :: l) t = if Lib.index l t == -1 then -1 else Lib.index l t + 1 := by rw [Lib.index, if_neg h]
      have h' : t.isPrefixOf (b :: l) = false := Bool.eq_false_iff.mpr h
      rw [e]
      simp only [List.map_cons] at hp
      simp only [List.map_cons, indexOf, hp, h', cond_false]
      rw [ih]
      have hge := Lib.index_ge l t
      by_cases h1 : Lib.index l t = -1
      · simp [h1]
      · have h2 : ¬ (Lib.index l t + 1 = -1) := by omega
        simp only [h1, if_false, h2, beq_iff_eq]
        have : (Nat.succ i : Nat) = i + 1 := rfl
        omega

section
variable {P : Program} {C : GCfg}

theorem callFunc_enter {f : FuncId} {fn : Func} (hf : P.funcs[f]? = some fn) (hn : (fn.name == "runtime.NumGoroutine") = false) (hb : fn.body.isNone = false) (args : Array Value) (w : World) : (callFunc f args).run P w = .ok (.enter f args) w := by
  unfold callFunc
  have hp : (program).run P w = .ok P w := rfl
  simp only [Sem.run_bind, hp, Result.andThen_ok, hf, hn, hb, Bool.false_eq_true, if_false, Sem.run_pure]

/-- A rule for the function f. -/
def ExtFor (P : Program) (C : GCfg) (f : FuncId) (x : Ext) : Prop :=
  ∀ (args : Array Value) (gargs : List GVal) (base : Nat) (W0 : World) (Γ : Gam) (gh : GHeap) (w : World) (r : GVal × GHeap), CfgOK P C Γ → args.size = gargs.length → (∀ i (hi : i < gargs.length), VRel Γ (args.getD i undef) gargs[i]) → WRel base W0 Γ gh w →
    x gargs gh = some r → EOk P base W0 Γ w (callFunc f args) r

theorem args_two {Γ : Gam} {args : Array Value} {a b : GVal} (hs : args.size = [a, b].length) (hr : ∀ i (hi : i < [a, b].length), VRel Γ (args.getD i undef) [a, b][i]) : ∃ x y, args = #[x, y] ∧ VRel Γ x a ∧ VRel Γ y b := by
  obtain ⟨l⟩ := args
  match l, hs with
  | [x, y], _ => exact ⟨x, y, rfl, by simpa using hr 0 (by simp), by simpa using hr 1 (by simp)⟩

/-- The cell of a package variable that holds the unknown value i. -/
theorem glob_any {Γ : Gam} {base : Nat} {W0 : World} {gh : GHeap} {w : World} (hC : CfgOK P C Γ) (hW : WRel base W0 Γ gh w) {g i : Nat} (hg : C.glob g = some (.vptr (.any i) 0)) : ∃ x, w.cell? ⟨g, 0, none⟩ = some x ∧ C.unk i x := by
  have h := hC.1 g _ hg
  generalize hv : Value.pointer (some (⟨g, 0, none⟩ : Addr)) = v at h
  cases h with
  | vptr r o off el f hi h1 h =>
    simp only [Value.pointer.injEq, Option.some.injEq, Addr.mk.injEq] at hv
    obtain ⟨rfl, h0, _⟩ := hv
    have ho : o = 0 := by omega
    subst ho
    have hc := hi 0 (by simp [GVal.cells])
    have hr := h 0 (by simp [GVal.cells])
    simp only [GVal.cells, List.getElem_cons_zero] at hr
    generalize hf : f 0 = u at hr
    cases hr with
    | any _ _ hu _ _ _ => exact ⟨u, by rw [← hf]; exact hW.immc _ _ _ hc, hC.2.2 i _ hu⟩

theorem extIndex_ok {f g i : Nat} {fn : Func} (hf : P.funcs[f]? = some fn) (hn : (fn.name == "runtime.NumGoroutine") = false) (hb : fn.body.isNone = false) (hg : C.glob g = some (.vptr (.any i) 0)) (hu : ∀ x, C.unk i x → ∃ m, x = .int .i64 m)
    (hx : ∀ (s sub : ByteArray) (m : Int) (w : World), s.size < 4294967281 → w.cell? ⟨g, 0, none⟩ = some (.int .i64 m) → Calls P f #[.string s, .string sub] w fun e w' => e = .returned (.int .i64 (Lib.index s.data.toList sub.data.toList)) ∧ w' = w) : ExtFor P C f extIndex := by
  intro args gargs base W0 Γ gh w r hC hs hr hW hx'
  unfold extIndex at hx'
  split at hx'
  · rename_i s t
    obtain ⟨x, y, rfl, hx1, hy1⟩ := args_two hs hr
    cases hx1 with | str bs _ hbs =>
    cases hy1 with | str bt _ hbt =>
    cases hlt : Nat.blt s.length 4294967281 with
    | false => rw [hlt] at hx'; cases hx'
    | true =>
      rw [hlt] at hx'
      simp only [cond_true, Option.some.injEq] at hx'; subst hx'
      have hsz : bs.size < 4294967281 := by
        have h1 : s.length = bs.size := by rw [← hbs]; exact bts_length bs
        rw [← h1]; exact Nat.le_of_ble_eq_true hlt
      obtain ⟨v, hc, hv⟩ := glob_any hC hW hg
      obtain ⟨m, rfl⟩ := hu v hv
      refine ⟨_, w, callFunc_enter hf hn hb _ w, ?_⟩
      refine Calls.mono (hx bs bt m w hsz hc) fun e w' he => ?_
      obtain ⟨rfl, rfl⟩ := he
      refine ⟨_, rfl, Γ, Gam.le_refl _, ?_, hW⟩
      subst hbs; subst hbt
      have e1 := indexOf_eq bt.data.toList bs.data.toList 0
      rw [e1]
      have e2 : (if Lib.index bs.data.toList bt.data.toList = -1 then -1 else Lib.index bs.data.toList bt.data.toList + ((0 : Nat) : Int)) = Lib.index bs.data.toList bt.data.toList := by
        split
        · rename_i h; exact h.symm
        · simp
      rw [e2]
      exact .int _ _
  · cases hx'
end
end Go.Gh

/-
  THE GHOST MACHINE: the real memory grows; what lay there lies there.
  No claim is proved here.
-/
namespace Go.Gh
open Go.RowKit (Below)

section
variable {base : Nat} {W0 : World} {Γ : Gam} {gh : GHeap} {w w' : World}

theorem heap_lt {w : World} {r : Nat} {o : Obj} (h : w.heap[r]? = some o) : r < w.heap.size := by
  rcases Nat.lt_or_ge r w.heap.size with h' | h'
  · exact h'
  · rw [Array.getElem?_eq_none h'] at h; cases h

theorem grow_at (hb : Below w.heap.size w w') {r : Nat} {o : Obj} (h : w.heap[r]? = some o) : w'.heap[r]? = some o := by
  rw [hb.block r (heap_lt h)]; exact h

theorem RowAt.grow (hb : Below w.heap.size w w') {r : Nat} {c : Array Value} (h : RowAt w r c) : RowAt w' r c := by
  obtain ⟨ty, fz, e⟩ := h.here
  have e' := grow_at hb e
  refine ⟨⟨ty, fz, e'⟩, fun j hj => ?_⟩
  have := h.free j hj
  unfold World.frozen? at this ⊢
  simp only at this ⊢
  rw [hb.block r (heap_lt e)]; exact this

theorem BRel.grow (hb : Below w.heap.size w w') {k : Nat} {b : GBlock} (h : BRel base Γ w k b) : BRel base Γ w' k b := by
  cases b with
  | cells vals lo g =>
    obtain ⟨q, o, n, c, hl, hbb, hr, hs, hn, h1, hv, hi⟩ := h.ex
    exact ⟨q, o, n, c, hl, hbb, hr.grow hb, hs, hn, h1, hv, hi⟩
  | tip a =>
    cases a with
    | false => trivial
    | true =>
      obtain ⟨q, o, used, cap, sz, c, hl, hbb, hr, hs, hi⟩ := h.ex
      exact ⟨q, o, used, cap, sz, c, hl, hbb, hr.grow hb, hs, hi⟩
  | map es =>
    obtain ⟨q, o, n, es', clock, hl, hbb, hr, he⟩ := h.ex
    exact ⟨q, o, n, es', clock, hl, hbb, grow_at hb hr, he⟩
  | dead => trivial

theorem WRel.grow (h : WRel base W0 Γ gh w) (hb : Below w.heap.size w w') : WRel base W0 Γ gh w' := by
  refine ⟨?_, Nat.le_trans h.big hb.size, fun r o v e => ?_, h.frL, h.frT, fun k b hk => ⟨(h.blk k b hk).1, (h.blk k b hk).2.grow hb⟩, h.inj⟩
  · exact ⟨hb.os.trans h.below.os, hb.tape.trans h.below.tape, hb.output.trans h.below.output, Nat.le_trans h.below.size hb.size, fun k hk => by rw [hb.block k (Nat.lt_of_lt_of_le hk h.big)]; exact h.below.block k hk⟩
  · have := h.immc r o v e
    have hlt := imm_lt h e
    unfold World.cell? at this ⊢
    simp only at this ⊢
    rw [hb.block r hlt]; exact this
end
end Go.Gh

/-
  THE GHOST MACHINE: a closed call, reckoned once, is a rule of its own; tables of ghosts.
  No claim is proved here.
-/
namespace Go.Gh
open Go.RowKit (Below)

def FTree.All (p : Nat → GFunc → Prop) : FTree → Prop
  | .leaf => True
  | .node k f l r => p k f ∧ l.All p ∧ r.All p

theorem FTree.find_all {p : Nat → GFunc → Prop} : ∀ (t : FTree) (n : Nat) (g : GFunc), t.All p → t.find n = some g → p n g := by
  intro t
  induction t with
  | leaf => intro n g _ h; simp [FTree.find] at h
  | node k f l r ihl ihr =>
    intro n g ha h
    obtain ⟨h1, h2, h3⟩ := ha
    simp only [FTree.find] at h
    cases hb : Nat.beq n k with
    | true =>
      rw [hb] at h
      simp only [cond_true, Option.some.injEq] at h
      have := Nat.eq_of_beq_eq_true hb
      subst this; subst h; exact h1
    | false =>
      rw [hb] at h
      simp only [cond_false] at h
      cases hl : Nat.blt n k with
      | true => rw [hl] at h; exact ihl _ _ h2 h
      | false => rw [hl] at h; exact ihr _ _ h3 h

/-- A value that holds no memory. -/
def Plain (v : GVal) : Prop := ∀ (Γ Γ' : Gam) (x : Value), Γ'.unk = Γ.unk → VRel Γ x v → VRel Γ' x v
theorem plain_bool (b : Bool) : Plain (.bool b) := fun _ _ _ _ h => by cases h; exact .bool _
theorem plain_int (k : IntKind) (m : Int) : Plain (.int k m) := fun _ _ _ _ h => by cases h; exact .int _ _
theorem plain_str (l : List Nat) : Plain (.str l) := fun _ _ _ _ h => by cases h with | str s _ h => exact .str _ _ h
theorem plain_any (i : Nat) : Plain (.any i) := fun _ _ _ e h => by cases h with | any _ _ h h1 h2 h3 => exact .any _ _ (by rw [e]; exact h) h1 h2 h3
theorem plain_tuple (l : List GVal) (hl : ∀ v ∈ l, Plain v) : Plain (.tuple l) := fun Γ Γ' _ e h => by
  cases h with | tuple cs _ he h => exact .tuple _ _ he fun i hi => hl _ (List.getElem_mem _) Γ Γ' _ e (h i hi)

/-- The memory of which a call that knows none is told: what nobody changes, what is unknown. -/
def Gam.bare (Γ : Gam) : Gam := ⟨fun _ => Option.none, fun _ => Option.none, Γ.imm, Γ.unk⟩

theorem empty_get (k : Nat) : GHeap.empty.get k = Option.none := by
  have hn : ∀ p, Tr.get p (Tr.nil : Tr GBlock) = Option.none := fun p => by
    induction p with
    | e => rfl
    | l p ih => exact ih
    | r p ih => exact ih
  simp [GHeap.get, GHeap.empty, hn]

theorem wrel_bare {base : Nat} {W0 : World} {Γ : Gam} {gh : GHeap} {w : World} (h : WRel base W0 Γ gh w) : WRel w.heap.size w Γ.bare .empty w := by
  refine ⟨⟨rfl, rfl, rfl, Nat.le_refl _, fun _ _ => rfl⟩, Nat.le_refl _, fun r o v e => h.immc r o v e, fun _ _ => rfl, fun _ _ => rfl, fun k b e => ?_, fun k k' b b' r _ e => ?_⟩
  · exact absurd e (by rw [empty_get]; simp)
  · exact absurd e (by rw [empty_get]; simp)

/-- The globals of the turning lead to what nobody changes. -/
def GlobBare (P : Program) (C : GCfg) : Prop := ∀ (Γ : Gam), CfgOK P C Γ → CfgOK P C Γ.bare

theorem globBare_of {P : Program} {C : GCfg} (h : ∀ g v, C.glob g = some v → ∃ el, v = .vptr el 0 ∧ ∀ u ∈ el.cells, Plain u) : GlobBare P C := by
  intro Γ hC
  refine ⟨fun g v e => ?_, hC.2.1, hC.2.2⟩
  have hr := hC.1 g v e
  obtain ⟨el, rfl, hp⟩ := h g v e
  generalize hx : Value.pointer (some (⟨g, 0, Option.none⟩ : Addr)) = x at hr
  cases hr with
  | vptr r o off el f hi h1 h => exact .vptr r o _ el f hi h1 fun j hj => hp _ (List.getElem_mem _) Γ _ _ rfl (h j hj)

/-- A call that is told of no memory and answers a plain value: what it answers anywhere. -/
theorem closed_rule {P : Program} {C : GCfg} {call : CallF} (hc : CallOK P C call) (hb : GlobBare P C) {f : FuncId} {x : Ext}
    (hx : ∀ gargs gh r, x gargs gh = some r → r.2 = gh ∧ Plain r.1 ∧ (∀ v ∈ gargs, Plain v) ∧ ∃ h', call f gargs .empty = some (r.1, h')) : ExtFor P C f x := by
  intro args gargs base W0 Γ gh w r hC hs hr hW h
  obtain ⟨h1, hp, hpa, h', h2⟩ := hx _ _ _ h
  obtain ⟨n, w1, hrun, hn⟩ := hc f args gargs w.heap.size w Γ.bare .empty w (r.1, h') (hb _ hC) hs (fun i hi => hpa _ (List.getElem_mem _) Γ _ _ (by rfl) (hr i hi)) (wrel_bare hW) h2
  have conv : ∀ v w', Ans w.heap.size w Γ.bare (r.1, h') v w' → Ans base W0 Γ r v w' := by
    rintro v w' ⟨Γ', hle, hv, hW'⟩
    refine ⟨Γ, Gam.le_refl _, hp Γ' Γ v (by rw [hle.unk]; rfl) hv, ?_⟩
    rw [h1]
    exact hW.grow hW'.below
  refine ⟨n, w1, hrun, ?_⟩
  cases n with
  | value v => exact conv _ _ hn
  | skip => exact conv _ _ hn
  | enter f args => exact Calls.mono hn fun e w'' ⟨v, he, hv⟩ => ⟨v, he, conv _ _ hv⟩
  | _ => exact hn
end Go.Gh

/-
  THE GHOST MACHINE: functions without a body whose answer the model gives.
  No claim is proved here.
-/
namespace Go.Gh

theorem indexByte_eq (c : UInt8) : ∀ (l : List UInt8) (i : Nat), indexByte c.toNat (l.map (·.toNat)) i = if Lib.indexByte l c = -1 then -1 else Lib.indexByte l c + i := by
  intro l
  induction l with
  | nil => intro i; rfl
  | cons b l ih =>
    intro i
    have hge := Lib.indexByte_ge l c
    simp only [List.map_cons, indexByte]
    rw [beq_bool]
    by_cases h : b = c
    · have e : Lib.indexByte (b :: l) c = 0 := by rw [Lib.indexByte, if_pos (by simpa using h)]
      rw [e]; subst h; simp
    · have e : Lib.indexByte (b :: l) c = if Lib.indexByte l c == -1 then -1 else Lib.indexByte l c + 1 := by rw [Lib.indexByte, if_neg (by simpa using h)]
      have hn : ¬ b.toNat = c.toNat := fun e => h (UInt8.toNat_inj.mp e)
      rw [e]
      simp only [hn, decide_false, cond_false]
      rw [ih]
      by_cases h1 : Lib.indexByte l c = -1
      · simp [h1]
      · have h2 : ¬ (Lib.indexByte l c + 1 = -1) := by omega
        simp only [h1, if_false, h2, beq_iff_eq]
        have : (Nat.succ i : Nat) = i + 1 := rfl
        omega

section
variable {P : Program} {C : GCfg}

theorem extIndexByte_ok {f : Nat} {fn : Func} (hf : P.funcs[f]? = some fn) (hn : (fn.name == "runtime.NumGoroutine") = false) (hb : fn.body.isNone = true) (hx : Extern.findNext fn = none) (he : Extern.find fn = some Extern.BytealgIndexByte.indexByte) : ExtFor P C f extIndexByte := by
  intro args gargs base W0 Γ gh w r hC hs hr hW hx'
  unfold extIndexByte at hx'
  split at hx'
  · rename_i s b
    obtain ⟨x, y, rfl, hx1, hy1⟩ := args_two hs hr
    cases hx1 with | str bs _ hbs =>
    cases hy1 with | int k m =>
    cases hlt : Nat.blt b 256 with
    | false => rw [hlt] at hx'; cases hx'
    | true =>
      rw [hlt] at hx'
      simp only [cond_true, Option.some.injEq] at hx'; subst hx'
      have hb256 : b < 256 := Nat.le_of_ble_eq_true hlt
      refine ⟨.value (.int .i64 (Lib.indexByte bs.data.toList (Int.ofNat b).toNat.toUInt8)), w, ?_, Γ, Gam.le_refl _, ?_, hW⟩
      · rw [run_callFunc_extern hf hn hb hx he, Lib.run_indexByteString]
        rfl
      · subst hbs
        have e0 : ((Int.ofNat b).toNat.toUInt8).toNat = b := by
          show (Nat.toUInt8 b).toNat = b
          simp; omega
        have e1 := indexByte_eq ((Int.ofNat b).toNat.toUInt8) bs.data.toList 0
        rw [e0] at e1
        rw [e1]
        have e2 : (if Lib.indexByte bs.data.toList (Int.ofNat b).toNat.toUInt8 = -1 then -1 else Lib.indexByte bs.data.toList (Int.ofNat b).toNat.toUInt8 + ((0 : Nat) : Int)) = Lib.indexByte bs.data.toList (Int.ofNat b).toNat.toUInt8 := by
          split
          · rename_i h; exact h.symm
          · simp
        rw [e2]
        exact .int _ _
  · cases hx'
end
end Go.Gh

/-
  THE GHOST MACHINE: a call from outside: what the ghost answers, the program answers.
  No claim is proved here.
-/
namespace Go.Gh
open Go.RowKit (Below)

/-- A type whose values are ints. -/
def intOk (P : Program) (u : TypeId) : Bool := match P.info? u, P.underlying u with | some i, some (.int _) => i.comparable | _, _ => false
theorem intOk_spec {P : Program} {u : TypeId} (h : intOk P u = true) : ∃ i k, P.info? u = some i ∧ i.comparable = true ∧ P.underlying u = some (.int k) := by
  unfold intOk at h
  split at h
  · rename_i i k hi hk; exact ⟨i, k, hi, h, hk⟩
  · cases h
theorem ints_ok {P : Program} {l : List TypeId} (h : l.all (intOk P) = true) : ∀ u ∈ l, ∃ i k, P.info? u = some i ∧ i.comparable = true ∧ P.underlying u = some (.int k) :=
  fun u hu => intOk_spec (List.all_eq_true.mp h u hu)

/-- Nothing is known of the memory but the cells that nobody changes. -/
theorem wrel_imm (w : World) (Γ : Gam) (hl : ∀ k, Γ.loc k = none) (ht : ∀ k, Γ.tip k = none) (hi : ∀ r o v, Γ.imm r o = some v → w.cell? ⟨r, o, none⟩ = some v) : WRel w.heap.size w Γ .empty w := by
  refine ⟨⟨rfl, rfl, rfl, Nat.le_refl _, fun _ _ => rfl⟩, Nat.le_refl _, hi, fun k _ => hl k, fun k _ => ht k, fun k b e => ?_, fun k k' b b' r _ e => ?_⟩
  · exact absurd e (by rw [empty_get]; simp)
  · exact absurd e (by rw [empty_get]; simp)

theorem isTrue_spec {r : Option (GVal × GHeap)} (h : isTrue r = true) : ∃ h', r = some (.bool true, h') := by
  unfold isTrue at h
  split at h
  · exact ⟨_, rfl⟩
  · cases h

/-- A law that the ghost finds true is true. -/
theorem law_calls {P : Program} {C : GCfg} {call : CallF} (hc : CallOK P C call) {f : FuncId} {fn : Func} (hf : P.funcs[f]? = some fn) (hn : (fn.name == "runtime.NumGoroutine") = false) (hb : fn.body.isNone = false)
    (w : World) (Γ : Gam) (hC : CfgOK P C Γ) (hl : ∀ k, Γ.loc k = none) (ht : ∀ k, Γ.tip k = none) (hi : ∀ r o v, Γ.imm r o = some v → w.cell? ⟨r, o, none⟩ = some v)
    (args : Array Value) (gargs : List GVal) (hs : args.size = gargs.length) (hr : ∀ i (hi : i < gargs.length), VRel Γ (args.getD i undef) gargs[i]) (h : isTrue (call f gargs .empty) = true) :
    Calls P f args w fun e w' => e = .returned (.bool true) ∧ Below w.heap.size w w' := by
  obtain ⟨h', he⟩ := isTrue_spec h
  obtain ⟨n, w1, hrun, hn'⟩ := hc f args gargs w.heap.size w Γ .empty w _ hC hs hr (wrel_imm w Γ hl ht hi) he
  rw [callFunc_enter hf hn hb args w] at hrun
  cases hrun
  refine Calls.mono hn' ?_
  rintro e w'' ⟨v, rfl, Γ', hle, hv, hW⟩
  cases hv
  exact ⟨rfl, hW.below⟩

theorem vptr_any {Γ : Gam} {g i : Nat} {x : Value} (hi : Γ.imm g 0 = some x) (hu : Γ.unk i = some x) (h1 : x.cells = #[x]) (h2 : x.oneCell' = true) (h3 : ∀ b, x ≠ .bool b) : VRel Γ (.pointer (some ⟨g, 0, none⟩)) (.vptr (.any i) 0) :=
  .vptr g 0 0 (.any i) (fun _ => x) (fun j hj => by have : j = 0 := by simpa [GVal.cells] using hj
                                                    subst this; exact hi) (fun v hv => by simp [GVal.cells] at hv; subst hv; rfl)
    (fun j hj => by
      have : j = 0 := by simpa [GVal.cells] using hj
      subst this; exact .any i x hu h1 h2 h3)
end Go.Gh

