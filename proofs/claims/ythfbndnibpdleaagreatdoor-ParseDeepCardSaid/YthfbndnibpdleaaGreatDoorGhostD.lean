/-
  The ghost machine: an interpreter over abstract values, and the proof that what it finds the program does. No claim is proved here; no conditions.
-/
import Derived.Test.YthfbndnibpdleaaGreatDoorGhostC
import Derived.Test.YthfbndnibpdleaaGreatDoorGhostA
import Derived.Lib.Index
import Derived.Lib.Bytealg
import Derived.Laws.Externs
import Derived.Lib.Join

/-
  THE GHOST MACHINE, THE SWIFT FORM: what it finds, the ghost finds.
  No claim is proved here.
-/
namespace Go.Gh

/-- The environment says of the frame nothing that is not so. -/
def Sub (e : Env) (ts : GFr) : Prop := ∀ p v, lk p e = some v → getS ts p = v


theorem lk_cons (p : Pth) (q : Pth × GVal) (e : Env) : lk p (q :: e) = if p = q.1 then some q.2 else lk p e := by
  by_cases h : p = q.1
  · rw [if_pos h, lk, pth_same.2 h]; rfl
  · have : Pth.same p q.1 = false := Bool.eq_false_iff.mpr fun e => h (pth_same.1 e)
    rw [if_neg h, lk, this]; rfl

theorem Sub.nil (ts : GFr) : Sub [] ts := fun p v h => by simp [lk] at h
theorem Sub.cons {e : Env} {ts : GFr} (h : Sub e ts) (p : Pth) (v : GVal) : Sub ((p, v) :: e) (Tr.set v p ts) := by
  intro q u hq
  rw [lk_cons] at hq
  split at hq
  · rename_i e1; cases hq; simp only at e1; subst e1; exact getS_set_same _ _ _
  · rename_i e1; rw [getS_set_ne _ _ _ _ e1]; exact h q u hq
theorem Sub.cons' {e : Env} {ts : GFr} (h : Sub e ts) {p : Pth} {v : GVal} (hv : getS ts p = v) : Sub ((p, v) :: e) ts := by
  intro q u hq
  rw [lk_cons] at hq
  split at hq
  · rename_i e1; cases hq; simp only at e1; subst e1; exact hv
  · exact h q u hq
theorem Sub.bindD {e : Env} {ts : GFr} (h : Sub e ts) (d : Option Pth) (v : GVal) : Sub (bindD d v e) (put ts d v) := by
  cases d with
  | none => exact h
  | some p => exact h.cons p v

theorem getS_toTr (e : Env) (p : Pth) : getS (toTr e) p = match lk p e with | some v => v | none => gundef := by
  induction e with
  | nil =>
    have hn : ∀ p, Tr.get p (Tr.nil : GFr) = none := fun p => by
      induction p with
      | e => rfl
      | l p ih => exact ih
      | r p ih => exact ih
    simp [toTr, getS, lk, hn]
  | cons q e ih =>
    rw [lk_cons]
    by_cases h : p = q.1
    · rw [if_pos h]; subst h; rw [toTr, getS_set_same]
    · rw [if_neg h, toTr, getS_set_ne _ _ _ _ h, ih]

theorem evE_eq (e : Env) : evE e = GArg.get (toTr e) := by
  funext a
  cases a with
  | const v => rfl
  | tmp p => simp only [evE, GArg.get, getS_toTr]; cases lk p e <;> rfl

theorem okL_has {e : Env} : ∀ {l : List Pth}, okL e l = true → ∀ p ∈ l, ∃ v, lk p e = some v := by
  intro l
  induction l with
  | nil => intro _ p hp; cases hp
  | cons q l ih =>
    intro h p hp
    simp only [okL, Bool.and_eq_true, hasE] at h
    rcases List.mem_cons.mp hp with rfl | hp
    · cases hq : lk p e with
      | none => rw [hq] at h; exact absurd h.1 (by simp)
      | some v => exact ⟨v, rfl⟩
    · exact ih h.2 p hp

theorem Sub.agree {e : Env} {ts : GFr} (h : Sub e ts) {l : List Pth} (hl : okL e l = true) : Agree (toTr e) ts l := by
  intro p hp
  obtain ⟨v, hv⟩ := okL_has hl p hp
  rw [getS_toTr, hv, h p v hv]

theorem okL_append {e : Env} : ∀ {a b : List Pth}, okL e (a ++ b) = true → okL e a = true ∧ okL e b = true := by
  intro a
  induction a with
  | nil => intro b h; exact ⟨rfl, h⟩
  | cons p a ih =>
    intro b h
    simp only [List.cons_append, okL, Bool.and_eq_true] at h
    have := ih h.2
    exact ⟨by simp only [okL, Bool.and_eq_true]; exact ⟨h.1, this.1⟩, this.2⟩

theorem cond_some {α : Type} {b : Bool} {x : Option α} {o : α} (h : (bif b then x else none) = some o) : b = true ∧ x = some o := by
  cases b with
  | true => exact ⟨rfl, h⟩
  | false => cases h

theorem bnd_some {α β : Type} {x : Option α} {k : α → Option β} {o : β} (h : bnd x k = some o) : ∃ v, x = some v ∧ k v = some o := by
  cases x with
  | none => cases h
  | some v => exact ⟨v, rfl, h⟩
theorem bnd2_some {β : Type} {x : Option (GVal × GHeap)} {k : GVal → GHeap → Option β} {o : β} (h : bnd2 x k = some o) : ∃ v g, x = some (v, g) ∧ k v g = some o := by
  cases x with
  | none => cases h
  | some p => exact ⟨p.1, p.2, rfl, h⟩

section
variable {E : GEnv} {call : CallF}

theorem sOpv_eq (o : GOp) (e : Env) (h : GHeap) : sOpv E call o e h = gOp E call h (evE e) o := by
  cases o with
  | p o => simp only [sOpv, gOp, withH]; cases gPure o (evE e) <;> rfl
  | r o => simp only [sOpv, gOp, withH]; cases gRead o h (evE e) <;> rfl
  | e o => rfl

theorem sDo_eq (o : GOp) (e : Env) (h : GHeap) (k : GVal → GHeap → SRes) : sDo E call o e h k = bnd2 (gOp E call h (evE e) o) k := by
  cases o with
  | p o => simp only [sDo, gOp, withH]; cases gPure o (evE e) <;> rfl
  | r o => simp only [sDo, gOp, withH]; cases gRead o h (evE e) <;> rfl
  | e o => rfl

theorem gOps_cons (o : GOper) (l : List GOper) (ts : GFr) (h : GHeap) : gOps E call (o :: l) ts h = stepO E call o (gOps E call l) ts h := rfl

/-- One operation. -/
theorem sStep_ok {o : GOper} {e : Env} {h : GHeap} {k : Env → GHeap → SRes} {r : SOut} {ts : GFr} (hs : sStep E call o e h k = some r) (hsub : Sub e ts) :
    ∃ v h', Sub (bindD o.dst v e) (put ts o.dst v) ∧ k (bindD o.dst v e) h' = some r ∧ okL e o.looks = true ∧
      ((wanted ts o.guard = true ∧ gOp E call h (GArg.get ts) o.op = some (v, h')) ∨ (wanted ts o.guard = false ∧ v = gundef ∧ h' = h)) := by
  unfold sStep at hs
  obtain ⟨hl, hs⟩ := cond_some hs
  have hag := hsub.agree hl
  have hop : gOp E call h (evE e) o.op = gOp E call h (GArg.get ts) o.op := by rw [evE_eq]; exact op_agree E call h (Agree.left (by unfold GOper.looks at hag; exact hag))
  have hgd := guard_agree hag
  cases hg : o.guard with
  | none =>
    rw [hg] at hs
    simp only [sDo_eq, hop] at hs
    obtain ⟨v, h', e1, e2⟩ := bnd2_some hs
    exact ⟨v, h', hsub.bindD _ _, e2, hl, .inl ⟨rfl, e1⟩⟩
  | some g =>
    rw [hg] at hs hgd
    simp only [sOpv_eq, hop] at hs
    have hw : guardIs (evE e (.tmp g.1)) g.2 = wanted ts (some g) := by
      rw [← hgd, evE_eq]; rfl
    simp only [gdo, hw] at hs
    cases hb : wanted ts (some g) with
    | true =>
      rw [hb] at hs
      obtain ⟨v, h', e1, e2⟩ := bnd2_some hs
      exact ⟨v, h', hsub.bindD _ _, e2, hl, .inl ⟨rfl, e1⟩⟩
    | false =>
      rw [hb] at hs
      exact ⟨gundef, h, hsub.bindD _ _, hs, hl, .inr ⟨rfl, rfl, rfl⟩⟩

theorem sOps_ok : ∀ (l : List GOper) {e : Env} {h : GHeap} {k : SK} {r : SOut} {ts : GFr}, sOps E call l e h k = some r → Sub e ts →
    ∃ ts' h' e', gOps E call l ts h = some (ts', h') ∧ Sub e' ts' ∧ k e' h' = some r := by
  intro l
  induction l with
  | nil => intro e h k r ts hs hsub; exact ⟨ts, h, e, rfl, hsub, hs⟩
  | cons o l ih =>
    intro e h k r ts hs hsub
    obtain ⟨v, h', h1, h2, _, h3⟩ := sStep_ok hs hsub
    obtain ⟨ts', h'', e', h4, h5, h6⟩ := ih h2 h1
    refine ⟨ts', h'', e', ?_, h5, h6⟩
    rw [gOps_cons, stepO]
    rcases h3 with ⟨hw, ho⟩ | ⟨hw, rfl, rfl⟩
    · rw [hw, ho]; exact h4
    · rw [hw]; exact h4

theorem sOpsT_ok : ∀ (l : List GOper) {e : Env} {h : GHeap} {hs0 : List GHeap} {k : Env → GHeap → List GHeap → SRes} {r : SOut} {ts : GFr}, sOpsT E call l e h hs0 k = some r → Sub e ts →
    ∃ ts' h' e' hs, gOpsT E call l ts h = some (ts', h', hs) ∧ Sub e' ts' ∧ k e' h' (hs0 ++ hs) = some r := by
  intro l
  induction l with
  | nil => intro e h hs0 k r ts hs hsub; exact ⟨ts, h, e, [h], rfl, hsub, hs⟩
  | cons o l ih =>
    intro e h hs0 k r ts hs hsub
    obtain ⟨v, h', h1, h2, _, h3⟩ := sStep_ok hs hsub
    obtain ⟨ts', h'', e', hs', h4, h5, h6⟩ := ih h2 h1
    refine ⟨ts', h'', e', h :: hs', ?_, h5, by simpa using h6⟩
    rw [gOpsT]
    rcases h3 with ⟨hw, ho⟩ | ⟨hw, rfl, rfl⟩
    · rw [hw, ho]; simp only [cond_true, h4, consH]
    · rw [hw]; simp only [cond_false, h4, consH]

theorem nth_looks {l : List GOper} {i : Nat} {o : GOper} {e : Env} (hl : okL e (looksL l) = true) (h : nth l i = some o) : okL e o.looks = true ∧ okL e (dstL o.dst) = true := by
  induction l generalizing i with
  | nil => cases h
  | cons q l ih =>
    simp only [looksL] at hl
    obtain ⟨h1, h2⟩ := okL_append hl
    obtain ⟨h3, h4⟩ := okL_append h2
    cases i with
    | zero => cases h; exact ⟨h1, h3⟩
    | succ i => exact ih h4 h

theorem readAgain_agree {o : GOp} {h : GHeap} {t u : GFr} (hag : Agree t u o.slots) : readAgain o h (GArg.get t) = readAgain o h (GArg.get u) := by
  cases o with
  | p o => rfl
  | r o => simp only [readAgain, read_agree h hag]
  | e o => rfl

theorem sChkOne_ok {l : List GOper} {e : Env} {ts : GFr} {hs : List GHeap} {r c : Nat} (hsub : Sub e ts) (hl : okL e (looksL l) = true) (h : sChkOne l e hs r c = true) : chkOne l ts hs r c = true := by
  unfold sChkOne at h
  unfold chkOne
  cases hn : nth l r with
  | none => simp [hn] at h
  | some ro =>
    simp only [hn] at h ⊢
    obtain ⟨h1, h2⟩ := nth_looks hl hn
    have hag := hsub.agree h1
    have hgd := guard_agree hag
    have hr : ∀ g, readAgain ro.op g (evE e) = readAgain ro.op g (GArg.get ts) := fun g => by
      rw [evE_eq]; exact readAgain_agree (Agree.left (by unfold GOper.looks at hag; exact hag))
    have hd : ∀ d, ro.dst = some d → evE e (.tmp d) = getS ts d := fun d e1 => by
      rw [evE_eq]
      rw [e1] at h2
      exact hsub.agree h2 d (List.mem_singleton.mpr rfl)
    cases hg : ro.guard with
    | none =>
      rw [hg] at hgd
      have hw : wanted ts none = true := rfl
      simp only [hg, hw, cond_true] at h ⊢
      cases hdd : ro.dst with
      | none => simp [hdd] at h
      | some d =>
        simp only [hdd] at h ⊢
        cases hh : nth hs (bif Nat.blt c r then c else Nat.succ c) with
        | none => simp [hh] at h
        | some g =>
          simp only [hh] at h ⊢
          rw [hr, hd d hdd] at h
          unfold chkV at h
          cases hx : readAgain ro.op g (GArg.get ts) with
          | none => rw [hx] at h; simp at h
          | some v => rw [hx] at h; exact h
    | some g =>
      rw [hg] at hgd
      have hw : guardIs (evE e (.tmp g.1)) g.2 = wanted ts (some g) := by rw [← hgd, evE_eq]; rfl
      simp only [hg, hw] at h ⊢
      cases hb : wanted ts (some g) with
      | false => rfl
      | true =>
        simp only [hb, cond_true] at h ⊢
        cases hdd : ro.dst with
        | none => simp [hdd] at h
        | some d =>
          simp only [hdd] at h ⊢
          cases hh : nth hs (bif Nat.blt c r then c else Nat.succ c) with
          | none => simp [hh] at h
          | some g' =>
            simp only [hh] at h ⊢
            rw [hr, hd d hdd] at h
            unfold chkV at h
            cases hx : readAgain ro.op g' (GArg.get ts) with
            | none => rw [hx] at h; simp at h
            | some v => rw [hx] at h; exact h

theorem sChkAll_ok {l : List GOper} {e : Env} {ts : GFr} {hs : List GHeap} (hsub : Sub e ts) (hl : okL e (looksL l) = true) : ∀ {chk : List (Nat × Nat)}, sChkAll l e hs chk = true → chkAll l ts hs chk = true := by
  intro chk
  induction chk with
  | nil => intro _; rfl
  | cons p chk ih =>
    intro h
    simp only [sChkAll, Bool.and_eq_true] at h
    simp only [chkAll, Bool.and_eq_true]
    exact ⟨sChkOne_ok hsub hl h.1, ih h.2⟩

theorem storeV_ok {l : List GOper} {i : Nat} {o : GOper} {e : Env} {ts : GFr} (hsub : Sub e ts) (hl : okL e (looksL l) = true) (hn : nth l i = some o) : storeV o e = storeAt? o ts := by
  have hag := hsub.agree (nth_looks hl hn).1
  obtain ⟨dst, op, guard⟩ := o
  cases guard with
  | some g => rfl
  | none =>
    unfold storeV storeAt?
    simp only
    cases op with
    | p o => rfl
    | r o => rfl
    | e o =>
      cases o with
      | store n a x =>
        simp only
        have : evE e a = a.get ts := by
          rw [evE_eq]
          refine arg_agree ?_
          intro p hp
          exact hag p (List.mem_append_left _ (List.mem_append_left _ hp))
        rw [this]
        cases a.get ts <;> rfl
      | _ => rfl

theorem sChkSw_ok {l : List GOper} {e : Env} {ts : GFr} {sw : Option (Nat × Nat)} (hsub : Sub e ts) (hl : okL e (looksL l) = true) (h : sChkSw l e sw = true) : chkSw l ts sw = true := by
  unfold sChkSw at h
  unfold chkSw
  cases sw with
  | none => rfl
  | some p =>
    simp only at h ⊢
    cases h1 : nth l p.1 with
    | none => simp [h1] at h
    | some a =>
      cases h2 : nth l p.2 with
      | none => simp [h1, h2] at h
      | some b =>
        simp only [h1, h2, storeV_ok hsub hl h1, storeV_ok hsub hl h2] at h ⊢
        unfold swV at h
        cases hx : storeAt? a ts with
        | none => rw [hx] at h; simp at h
        | some k =>
          cases hy : storeAt? b ts with
          | none => rw [hx, hy] at h; simp at h
          | some m => rw [hx, hy] at h; exact h

theorem sDraw_ok {chk : List (Nat × Nat)} {sw : Option (Nat × Nat)} {l : List GOper} {e : Env} {h : GHeap} {k : SK} {r : SOut} {ts : GFr} (hs : sDraw E call chk sw l e h k = some r) (hsub : Sub e ts) :
    ∃ ts' h' e', gDrawC E call chk sw l (ts, h) = some (.normal, (ts', h')) ∧ Sub e' ts' ∧ k e' h' = some r := by
  obtain ⟨ts', h', e', hs', h1, h2, h3⟩ := sOpsT_ok l hs hsub
  obtain ⟨hl, h3⟩ := cond_some h3
  obtain ⟨hc, h3⟩ := cond_some h3
  simp only [List.nil_append, Bool.and_eq_true] at hc
  refine ⟨ts', h', e', ?_, h2, h3⟩
  simp only [gDrawC, h1, chkC]
  rw [sChkAll_ok h2 hl hc.1, sChkSw_ok h2 hl hc.2]
  rfl

theorem sFz_ok {t : Pth} {esz : Nat} {agg : Bool} {at_ : Option GArg} {e : Env} {h : GHeap} {k : SK} {r : SOut} {ts : GFr} (hs : sFz t esz agg at_ e h k = some r) (hsub : Sub e ts) :
    ∃ ts' h' e', gFz esz agg at_ t ts h = some (ts', h') ∧ Sub e' ts' ∧ k e' h' = some r := by
  unfold sFz at hs
  obtain ⟨hl, hs⟩ := cond_some hs
  have hag := hsub.agree hl
  have ht : evE e (.tmp t) = getS ts t := by rw [evE_eq]; exact hag t (List.mem_cons_self ..)
  rw [ht] at hs
  obtain ⟨v, h', h1, h2⟩ := bnd2_some hs
  cases at_ with
  | none =>
    refine ⟨_, _, _, ?_, hsub.cons t v, h2⟩
    simp only [gFz, h1]
  | some a =>
    have ha : evE e a = a.get ts := by
      rw [evE_eq]
      exact arg_agree fun p hp => hag p (List.mem_cons_of_mem _ hp)
    simp only [ha] at h2
    obtain ⟨hc, h2⟩ := cond_some h2
    obtain ⟨h'', h3, h4⟩ := bnd_some h2
    refine ⟨_, _, _, ?_, hsub.cons t v, h4⟩
    simp only [gFz, h1, hc, cond_true, h3, fzPut]
end
end Go.Gh

/-
  THE GHOST MACHINE, THE SWIFT FORM: code and functions.
  No claim is proved here.
-/
namespace Go.Gh

section
variable {E : GEnv} {call : CallF}

theorem put_other {ts : GFr} {d : Option Pth} {v : GVal} {p : Pth} (h : p ∉ dstL d) : getS (put ts d v) p = getS ts p := by
  cases d with
  | none => rfl
  | some q => exact getS_set_ne _ _ _ _ fun e => h (by rw [e]; exact List.mem_singleton.mpr rfl)

theorem gOps_off : ∀ (l : List GOper) {ts ts' : GFr} {h h' : GHeap} {p : Pth}, p ∉ dstsL l → gOps E call l ts h = some (ts', h') → getS ts' p = getS ts p := by
  intro l
  induction l with
  | nil => intro ts ts' h h' p _ e; cases e; rfl
  | cons o l ih =>
    intro ts ts' h h' p hp e
    simp only [dstsL, List.mem_append, not_or] at hp
    rw [gOps_cons, stepO] at e
    cases hw : wanted ts o.guard with
    | true =>
      rw [hw] at e
      simp only [cond_true] at e
      cases ho : gOp E call h (GArg.get ts) o.op with
      | none => rw [ho] at e; cases e
      | some q => rw [ho] at e; rw [ih hp.2 e, put_other hp.1]
    | false => rw [hw] at e; rw [ih hp.2 e, put_other hp.1]

theorem consH_some {h : GHeap} {r : Option (GFr × GHeap × List GHeap)} {x : GFr × GHeap × List GHeap} (e : consH h r = some x) : ∃ hs, r = some (x.1, x.2.1, hs) := by
  cases r with
  | none => cases e
  | some p => cases e; exact ⟨p.2.2, rfl⟩

theorem gOpsT_off : ∀ (l : List GOper) {ts ts' : GFr} {h h' : GHeap} {hs : List GHeap} {p : Pth}, p ∉ dstsL l → gOpsT E call l ts h = some (ts', h', hs) → getS ts' p = getS ts p := by
  intro l
  induction l with
  | nil => intro ts ts' h h' hs p _ e; cases e; rfl
  | cons o l ih =>
    intro ts ts' h h' hs p hp e
    simp only [dstsL, List.mem_append, not_or] at hp
    rw [gOpsT] at e
    cases hw : wanted ts o.guard with
    | true =>
      rw [hw] at e
      simp only [cond_true] at e
      cases ho : gOp E call h (GArg.get ts) o.op with
      | none => rw [ho] at e; cases e
      | some q =>
        rw [ho] at e
        obtain ⟨hs', e'⟩ := consH_some e
        rw [ih hp.2 e', put_other hp.1]
    | false =>
      rw [hw] at e
      obtain ⟨hs', e'⟩ := consH_some e
      rw [ih hp.2 e', put_other hp.1]

theorem gFz_off {esz : Nat} {agg : Bool} {a : Option GArg} {t : Pth} {ts ts' : GFr} {h h' : GHeap} {p : Pth} (hp : p ≠ t) (e : gFz esz agg a t ts h = some (ts', h')) : getS ts' p = getS ts p := by
  unfold gFz at e
  split at e
  · cases e
  · split at e
    · cases e; exact getS_set_ne _ _ _ _ hp
    · obtain ⟨_, e⟩ := cond_some e
      unfold fzPut at e
      split at e
      · cases e; exact getS_set_ne _ _ _ _ hp
      · cases e

theorem gLoop_off {f : St → Res} {p : Pth} (hf : ∀ s x s', f s = some (x, s') → getS s'.1 p = getS s.1 p) : ∀ n s x s', gLoop f n s = some (x, s') → getS s'.1 p = getS s.1 p := by
  intro n
  induction n with
  | zero => intro s x s' e; cases e
  | succ n ih =>
    intro s x s' e
    rw [gLoop] at e
    unfold thenC at e
    split at e
    · cases e
    · rename_i q hq
      have h1 := hf s q.1 q.2 (by rw [hq])
      split at e
      · rw [ih _ _ _ e, h1]
      · cases e; exact h1

theorem gJumps_off {l : Nat} {f : St → Res} {p : Pth} {t0 : GVal} (hf : ∀ s x s', f s = some (x, s') → getS s'.1 p = getS s.1 p) : ∀ n r x s', (∀ y s, r = some (y, s) → getS s.1 p = t0) → gJumps l f n r = some (x, s') → getS s'.1 p = t0 := by
  intro n
  induction n with
  | zero => intro r x s' _ e; cases e
  | succ n ih =>
    intro r x s' hr e
    cases r with
    | none => cases e
    | some q =>
      have h1 := hr q.1 q.2 rfl
      obtain ⟨y, s⟩ := q
      cases y with
      | goto m =>
        have e' : (bif Nat.beq m l then gJumps l f n (f s) else some (.goto m, s)) = some (x, s') := e
        cases hb : Nat.beq m l with
        | true => rw [hb] at e'; exact ih _ _ _ (fun y s2 hy => by rw [hf _ _ _ hy, h1]) e'
        | false => rw [hb] at e'; cases e'; exact h1
      | _ => cases e; exact h1

theorem gOps_append : ∀ (l1 l2 : List GOper) {ts ts' : GFr} {h h' : GHeap}, gOps E call l1 ts h = some (ts', h') → gOps E call (l1 ++ l2) ts h = gOps E call l2 ts' h' := by
  intro l1
  induction l1 with
  | nil => intro l2 ts ts' h h' e; cases e; rfl
  | cons o l1 ih =>
    intro l2 ts ts' h h' e
    rw [gOps_cons, stepO] at e
    rw [List.cons_append, gOps_cons, stepO]
    cases hw : wanted ts o.guard with
    | true =>
      rw [hw] at e
      simp only [cond_true] at e ⊢
      cases ho : gOp E call h (GArg.get ts) o.op with
      | none => rw [ho] at e; cases e
      | some q => rw [ho] at e; exact ih l2 e
    | false =>
      rw [hw] at e
      exact ih l2 e

theorem gOpsT_of : ∀ (l : List GOper) {ts ts' : GFr} {h h' : GHeap}, gOps E call l ts h = some (ts', h') → ∃ hs, gOpsT E call l ts h = some (ts', h', hs) := by
  intro l
  induction l with
  | nil => intro ts ts' h h' e; cases e; exact ⟨_, rfl⟩
  | cons o l ih =>
    intro ts ts' h h' e
    rw [gOps_cons, stepO] at e
    rw [gOpsT]
    cases hw : wanted ts o.guard with
    | true =>
      rw [hw] at e
      simp only [cond_true] at e ⊢
      cases ho : gOp E call h (GArg.get ts) o.op with
      | none => rw [ho] at e; cases e
      | some q =>
        rw [ho] at e
        obtain ⟨hs, h1⟩ := ih e
        exact ⟨h :: hs, by simp only [h1, consH]⟩
    | false =>
      rw [hw] at e
      obtain ⟨hs, h1⟩ := ih e
      exact ⟨h :: hs, by simp only [cond_false, h1, consH]⟩

theorem gDrawC_of {l : List GOper} {ts ts' : GFr} {h h' : GHeap} (e : gOps E call l ts h = some (ts', h')) : gDrawC E call [] none l (ts, h) = some (.normal, (ts', h')) := by
  obtain ⟨hs, h1⟩ := gOpsT_of l e
  simp only [gDrawC, h1, chkC, chkAll, chkSw, Bool.and_self, cond_true]

/-- What a piece of code does not write stays. -/
theorem gCode_off {n : Nat} : ∀ (c : SCode) (s s' : St) (x : GExit) (p : Pth), p ∉ writes c → gCode E call n c.erase s = some (x, s') → getS s'.1 p = getS s.1 p := by
  intro c
  induction c with
  | skip => intro s s' x p _ e; cases e; rfl
  | ops l =>
    intro s s' x p hp e
    have e' : gOpsC E call l s = some (x, s') := e
    unfold gOpsC normalC at e'
    split at e'
    · rename_i t ht; cases e'; exact gOps_off l hp ht
    · cases e'
  | items l =>
    intro s s' x p hp e
    have e' : gOpsC E call (flatI l) s = some (x, s') := e
    unfold gOpsC normalC at e'
    split at e'
    · rename_i t ht; cases e'; exact gOps_off (flatI l) hp ht
    · cases e'
  | drawI l =>
    intro s s' x p hp e
    have e' : gDrawC E call [] none (flatI l) s = some (x, s') := e
    unfold gDrawC chkC at e'
    split at e'
    · rename_i t ht
      obtain ⟨_, e'⟩ := cond_some e'
      cases e'; exact gOpsT_off (flatI l) hp ht
    · cases e'
  | draw chk sw l =>
    intro s s' x p hp e
    have e' : gDrawC E call chk sw l s = some (x, s') := e
    unfold gDrawC chkC at e'
    split at e'
    · rename_i t ht
      obtain ⟨_, e'⟩ := cond_some e'
      cases e'; exact gOpsT_off l hp ht
    · cases e'
  | fz t esz agg a =>
    intro s s' x p hp e
    have e' : normalC (gFz esz agg a t s.1 s.2) = some (x, s') := e
    unfold normalC at e'
    split at e'
    · rename_i t ht; cases e'; exact gFz_off (fun e => hp (by rw [e]; exact List.mem_singleton.mpr rfl)) ht
    · cases e'
  | seq a b iha ihb =>
    intro s s' x p hp e
    simp only [writes, List.mem_append, not_or] at hp
    have e' : thenC (gCode E call n a.erase s) (gCode E call n b.erase) = some (x, s') := e
    unfold thenC at e'
    split at e'
    · cases e'
    · rename_i q hq
      have h1 := iha s q.2 q.1 p hp.1 (by rw [hq])
      split at e'
      · rw [ihb _ _ _ p hp.2 e', h1]
      · cases e'; exact h1
  | cond c a b iha ihb =>
    intro s s' x p hp e
    simp only [writes, List.mem_append, not_or] at hp
    have e' : gCond (c.get s.1) (gCode E call n a.erase) (gCode E call n b.erase) s = some (x, s') := e
    unfold gCond at e'
    split at e'
    · rename_i b' _
      cases b' with
      | true => exact iha _ _ _ p hp.1 e'
      | false => exact ihb _ _ _ p hp.2 e'
    · cases e'
  | join L c ih => intro s s' x p hp e; exact ih s s' x p hp e
  | block id L c ih =>
    intro s s' x p hp e
    have e' : inBlockC id (gCode E call n c.erase s) = some (x, s') := e
    unfold inBlockC at e'
    split at e'
    · cases e'
    · rename_i q hq
      have h1 := ih s q.2 q.1 p hp (by rw [hq])
      split at e'
      · rename_i i _
        cases hb : Nat.beq i id with
        | true => rw [hb] at e'; cases e'; exact h1
        | false => rw [hb] at e'; cases e'; exact h1
      · cases e'; exact h1
  | loop L c ih =>
    intro s s' x p hp e
    exact gLoop_off (fun s x s' e => ih s s' x p hp e) n s x s' e
  | exit id => intro s s' x p _ e; cases e; rfl
  | scope c l Lg r La ihc ihr =>
    intro s s' x p hp e
    simp only [writes, List.mem_append, not_or] at hp
    exact gJumps_off (t0 := getS s.1 p) (fun s x s' e => ihr s s' x p hp.2 e) n _ x s' (fun y s1 h1 => ihc s s1 y p hp.1 h1) e
  | label l => intro s s' x p _ e; cases e; rfl
  | goto l => intro s s' x p _ e; cases e; rfl
  | ret => intro s s' x p _ e; cases e; rfl
  | refuse => intro s s' x p _ e; cases e

theorem vals_ok {e : Env} {ts : GFr} (hsub : Sub e ts) : ∀ {L : List Pth} {vs : List GVal}, vals e L = some vs → vs = L.map (getS ts) := by
  intro L
  induction L with
  | nil => intro vs h; cases h; rfl
  | cons p L ih =>
    intro vs h
    simp only [vals] at h
    split at h
    · rename_i v l h1 h2
      cases h
      simp only [List.map_cons, hsub p v h1, ih h2]
    · cases h

theorem outV_ok {e : Env} {ts : GFr} {L : List Pth} {h : GHeap} {o : SOut} (hsub : Sub e ts) (ho : outV L e h = some o) : o = .normal (L.map (getS ts)) h := by
  unfold outV at ho
  split at ho
  · rename_i vs hv; cases ho; rw [vals_ok hsub hv]
  · cases ho

theorem withVals_ok {ts : GFr} {k : Env → SRes} {o : SOut} : ∀ {L : List Pth} {e : Env}, Sub e ts → withVals L (L.map (getS ts)) e k = some o → ∃ e', Sub e' ts ∧ k e' = some o := by
  intro L
  induction L with
  | nil => intro e hsub h; exact ⟨e, hsub, h⟩
  | cons p L ih =>
    intro e hsub h
    exact ih (hsub.cons' rfl) h

theorem Sub.keep {w : List Pth} {e : Env} {ts ts' : GFr} (hsub : Sub e ts) (hw : ∀ p, p ∉ w → getS ts' p = getS ts p) : Sub (keep w e) ts' := by
  have hk : ∀ {e : Env} {p : Pth} {v : GVal}, lk p (Gh.keep w e) = some v → lk p e = some v ∧ p ∉ w := by
    intro e
    induction e with
    | nil => intro p v h; cases h
    | cons q e ih =>
      intro p v h
      simp only [Gh.keep] at h
      cases hq : hasP q.1 w with
      | true =>
        rw [hq] at h
        obtain ⟨h1, h2⟩ := ih h
        refine ⟨?_, h2⟩
        rw [lk_cons, if_neg (fun e => h2 (by rw [e]; exact hasP_iff.1 hq))]
        exact h1
      | false =>
        rw [hq] at h
        simp only [cond_false] at h
        rw [lk_cons] at h ⊢
        by_cases hpq : p = q.1
        · rw [if_pos hpq] at h ⊢
          refine ⟨h, fun hm => ?_⟩
          rw [← hpq, hasP_iff.2 hm] at hq; cases hq
        · rw [if_neg hpq] at h ⊢
          exact ih h
  intro p v h
  obtain ⟨h1, h2⟩ := hk h
  rw [hw p h2]
  exact hsub p v h1

theorem allG_cons {g : Pth} {b : Bool} {o : GOper} {r : List GOper} (h : allG g b (o :: r) = true) : o.guard = some (g, b) ∧ g ∉ dstL o.dst ∧ allG g b r = true := by
  simp only [allG, Bool.and_eq_true] at h
  obtain ⟨⟨h1, h2⟩, h3⟩ := h
  refine ⟨?_, ?_, h3⟩
  · cases hg : o.guard with
    | none => rw [hg] at h1; simp at h1
    | some p =>
      rw [hg] at h1
      simp only [Bool.and_eq_true, beq_iff_eq] at h1
      obtain ⟨q, c⟩ := p
      simp only at h1
      rw [pth_same.1 h1.1, h1.2]
  · cases hd : o.dst with
    | none => simp [dstL]
    | some d =>
      rw [hd] at h2
      simp only [Bool.not_eq_true'] at h2
      intro hm
      have : g = d := List.mem_singleton.mp hm
      subst this
      rw [pth_same.2 rfl] at h2; cases h2

theorem sOpsU_ok {g : Pth} {b : Bool} : ∀ (l : List GOper) {e : Env} {h : GHeap} {k : SK} {r : SOut} {ts : GFr}, allG g b l = true → guardIs (getS ts g) b = true → sOpsU E call l e h k = some r → Sub e ts →
    ∃ ts' h' e', gOps E call l ts h = some (ts', h') ∧ Sub e' ts' ∧ k e' h' = some r := by
  intro l
  induction l with
  | nil => intro e h k r ts _ _ hs hsub; exact ⟨ts, h, e, rfl, hsub, hs⟩
  | cons o l ih =>
    intro e h k r ts ha hg hs hsub
    obtain ⟨h1, h2, h3⟩ := allG_cons ha
    have hs' : sStepU E call o e h (fun e h => sOpsU E call l e h k) = some r := hs
    unfold sStepU at hs'
    obtain ⟨hl, hs'⟩ := cond_some hs'
    have hop : gOp E call h (evE e) o.op = gOp E call h (GArg.get ts) o.op := by rw [evE_eq]; exact op_agree E call h (hsub.agree hl)
    rw [sDo_eq, hop] at hs'
    obtain ⟨v, h', e1, e2⟩ := bnd2_some hs'
    have hg' : guardIs (getS (put ts o.dst v) g) b = true := by rw [put_other h2]; exact hg
    obtain ⟨ts', h'', e', h4, h5, h6⟩ := ih h3 hg' e2 (hsub.bindD _ _)
    refine ⟨ts', h'', e', ?_, h5, h6⟩
    have hw : wanted ts o.guard = true := by rw [h1]; exact hg
    rw [gOps_cons, stepO, hw, e1]; exact h4

theorem gOps_undef {g : Pth} {b : Bool} : ∀ (l : List GOper) {h : GHeap} {ts : GFr}, allG g b l = true → guardIs (getS ts g) b = false →
    ∃ ts', gOps E call l ts h = some (ts', h) ∧ (∀ p ∈ dstsL l, getS ts' p = gundef) ∧ ∀ p, p ∉ dstsL l → getS ts' p = getS ts p := by
  intro l
  induction l with
  | nil => intro h ts _ _; exact ⟨ts, rfl, (fun p hp => by cases hp), fun _ _ => rfl⟩
  | cons o l ih =>
    intro h ts ha hg
    obtain ⟨h1, h2, h3⟩ := allG_cons ha
    have hg' : guardIs (getS (put ts o.dst gundef) g) b = false := by rw [put_other h2]; exact hg
    obtain ⟨ts', h4, h5, h6⟩ := ih (h := h) h3 hg'
    have hw : wanted ts o.guard = false := by rw [h1]; exact hg
    refine ⟨ts', ?_, ?_, ?_⟩
    · rw [gOps_cons, stepO, hw]; exact h4
    · intro p hp
      by_cases hm : p ∈ dstsL l
      · exact h5 p hm
      · rw [h6 p hm]
        rcases List.mem_append.mp hp with hp | hp
        · cases hd : o.dst with
          | none => rw [hd] at hp; cases hp
          | some d => rw [hd] at hp; rw [List.mem_singleton.mp hp]; exact getS_set_same _ _ _
        · exact absurd hp hm
    · intro p hp
      simp only [dstsL, List.mem_append, not_or] at hp
      rw [h6 p hp.2, put_other hp.1]

theorem undefs_eq {ts : GFr} : ∀ {L : List Pth}, (∀ p ∈ L, getS ts p = gundef) → undefs L = L.map (getS ts) := by
  intro L
  induction L with
  | nil => intro _; rfl
  | cons p L ih => intro h; simp only [undefs, List.map_cons, h p (List.mem_cons_self ..), ih fun q hq => h q (List.mem_cons_of_mem _ hq)]
theorem subL_mem {M : List Pth} : ∀ {L : List Pth}, subL L M = true → ∀ p ∈ L, p ∈ M := by
  intro L
  induction L with
  | nil => intro _ p hp; cases hp
  | cons q L ih =>
    intro h p hp
    simp only [subL, Bool.and_eq_true] at h
    rcases List.mem_cons.mp hp with rfl | hp
    · exact hasP_iff.1 h.1
    · exact ih h.2 p hp

theorem sGrp_ok {g : Pth} {b : Bool} {L : List Pth} {l : List GOper} {e : Env} {h : GHeap} {k : SK} {r : SOut} {ts : GFr} (hs : sGrp E call g b L l e h k = some r) (hsub : Sub e ts) :
    ∃ ts' h' e', gOps E call l ts h = some (ts', h') ∧ Sub e' ts' ∧ k e' h' = some r := by
  unfold sGrp at hs
  obtain ⟨hc, hs⟩ := cond_some hs
  simp only [Bool.and_eq_true] at hc
  obtain ⟨h1, h2, h3⟩ := hc
  have hg : evE e (.tmp g) = getS ts g := by
    rw [evE_eq]
    exact hsub.agree (l := [g]) (by simp only [okL, h1, Bool.and_true]) g (List.mem_singleton.mpr rfl)
  rw [hg] at hs
  have fin : ∀ ts' h', gOps E call l ts h = some (ts', h') → withVals L (L.map (getS ts')) (keep (dstsL l) e) (fun e => k e h') = some r → ∃ ts' h' e', gOps E call l ts h = some (ts', h') ∧ Sub e' ts' ∧ k e' h' = some r := by
    intro ts' h' ho hw
    obtain ⟨e', h4, h5⟩ := withVals_ok (hsub.keep fun p hp => gOps_off l hp ho) hw
    exact ⟨ts', h', e', ho, h4, h5⟩
  cases hgb : guardIs (getS ts g) b with
  | true =>
    rw [gIf, hgb] at hs
    simp only at hs
    cases hu : sOpsU E call l e h (outV L) with
    | none => rw [hu] at hs; cases hs
    | some o =>
      rw [hu] at hs
      obtain ⟨ts', h', e', h4, h5, h6⟩ := sOpsU_ok l h2 hgb hu hsub
      have := outV_ok h5 h6
      subst this
      exact fin ts' h' h4 hs
  | false =>
    rw [gIf, hgb] at hs
    obtain ⟨ts', h4, h5, _⟩ := gOps_undef (E := E) (call := call) l (h := h) h2 hgb
    have hs' : withVals L (undefs L) (keep (dstsL l) e) (fun e => k e h) = some r := hs
    rw [undefs_eq fun p hp => h5 p (subL_mem h3 p hp)] at hs'
    exact fin ts' h h4 hs'

theorem sItems_ok : ∀ (l : List SItem) {e : Env} {h : GHeap} {k : SK} {r : SOut} {ts : GFr}, sItems E call l e h k = some r → Sub e ts →
    ∃ ts' h' e', gOps E call (flatI l) ts h = some (ts', h') ∧ Sub e' ts' ∧ k e' h' = some r := by
  intro l
  induction l with
  | nil => intro e h k r ts hs hsub; exact ⟨ts, h, e, rfl, hsub, hs⟩
  | cons i l ih =>
    intro e h k r ts hs hsub
    cases i with
    | one o =>
      have hs' : sStep E call o e h (fun e h => sItems E call l e h k) = some r := hs
      have hone : sOps E call [o] e h (fun e h => sItems E call l e h k) = some r := hs'
      obtain ⟨ts', h', e', h1, h2, h3⟩ := sOps_ok [o] hone hsub
      obtain ⟨ts'', h'', e'', h4, h5, h6⟩ := ih h3 h2
      exact ⟨ts'', h'', e'', by show gOps E call ([o] ++ flatI l) ts h = _; rw [gOps_append _ _ h1]; exact h4, h5, h6⟩
    | grp g b L gl =>
      have hs' : sGrp E call g b L gl e h (fun e h => sItems E call l e h k) = some r := hs
      obtain ⟨ts', h', e', h1, h2, h3⟩ := sGrp_ok hs' hsub
      obtain ⟨ts'', h'', e'', h4, h5, h6⟩ := ih h3 h2
      exact ⟨ts'', h'', e'', by show gOps E call (gl ++ flatI l) ts h = _; rw [gOps_append _ _ h1]; exact h4, h5, h6⟩

/-- What the swift form's result says of the ghost's. -/
def Post (R : List GRes) (X G : List (Nat × List Pth)) (k : SK) (o : SOut) (r : Res) : Prop :=
  (∃ ts' h' e', r = some (.normal, (ts', h')) ∧ Sub e' ts' ∧ k e' h' = some o) ∨
  (∃ id L ts' h', o = .exit id (L.map (getS ts')) h' ∧ lkX id X = some L ∧ r = some (.exit id, (ts', h'))) ∨
  (∃ l L ts' h', o = .goto l (L.map (getS ts')) h' ∧ lkX l G = some L ∧ r = some (.goto l, (ts', h'))) ∨
  (∃ v ts' h', o = .ret v h' ∧ r = some (.ret, (ts', h')) ∧ leave R (ts', h') = some (v, h'))

theorem sRet_ok {e : Env} {ts : GFr} {h : GHeap} {o : SOut} (hsub : Sub e ts) : ∀ {R : List GRes} {k : List GVal → SRes}, okL e (resSlots R) = true → sRet e h R k = some o → ∃ l, gRes ts h R = some l ∧ k l = some o := by
  intro R
  induction R with
  | nil => intro k _ hr; exact ⟨[], rfl, hr⟩
  | cons r R ih =>
    intro k hl hr
    cases r with
    | tmp p =>
      have hl' : okL e (p :: resSlots R) = true := hl
      have hp : evE e (.tmp p) = getS ts p := by rw [evE_eq]; exact hsub.agree hl' p (List.mem_cons_self ..)
      have hl2 : okL e (resSlots R) = true := by
        simp only [okL, Bool.and_eq_true] at hl'; exact hl'.2
      obtain ⟨l, h1, h2⟩ := ih hl2 hr
      refine ⟨_, ?_, h2⟩
      simp only [gRes, gRes1, h1, hp]
    | cell p n g =>
      have hl' : okL e (p :: resSlots R) = true := hl
      have hp : evE e (.tmp p) = getS ts p := by rw [evE_eq]; exact hsub.agree hl' p (List.mem_cons_self ..)
      have hl2 : okL e (resSlots R) = true := by
        simp only [okL, Bool.and_eq_true] at hl'; exact hl'.2
      obtain ⟨v, hv, hr⟩ := bnd_some hr
      obtain ⟨l, h1, h2⟩ := ih hl2 hr
      refine ⟨_, ?_, h2⟩
      rw [hp] at hv
      simp only [gRes, gRes1, h1, hv]

theorem sDone_ok {R : List GRes} {e : Env} {ts : GFr} {h : GHeap} {o : SOut} (hsub : Sub e ts) (hd : sDone R e h = some o) : ∃ v, o = .ret v h ∧ leave R (ts, h) = some (v, h) := by
  unfold sDone at hd
  obtain ⟨hl, hd⟩ := cond_some hd
  obtain ⟨l, h1, h2⟩ := sRet_ok hsub hl hd
  cases h2
  exact ⟨_, rfl, by simp only [leave, h1]⟩

theorem sJoin_ok {R : List GRes} {X G : List (Nat × List Pth)} {L : List Pth} {r : Res} {rs : SRes} {k : List GVal → GHeap → SRes} {K : SK} {o : SOut} (hj : sJoin rs k = some o)
    (hr : ∀ o1, rs = some o1 → Post R X G (outV L) o1 r) (hk : ∀ ts' h', r = some (.normal, (ts', h')) → k (L.map (getS ts')) h' = some o → ∃ e', Sub e' ts' ∧ K e' h' = some o) : Post R X G K o r := by
  cases rs with
  | none => cases hj
  | some o1 =>
    rcases hr o1 rfl with ⟨ts', h', e', h1, h2, h3⟩ | ⟨id, L', ts', h', rfl, h2, h3⟩ | ⟨l, L', ts', h', rfl, h2, h3⟩ | ⟨v, ts', h', rfl, h2, h3⟩
    · have := outV_ok h2 h3
      subst this
      obtain ⟨e'', h4, h5⟩ := hk ts' h' h1 hj
      exact .inl ⟨ts', h', e'', h1, h4, h5⟩
    · cases hj; exact .inr (.inl ⟨id, L', ts', h', rfl, h2, h3⟩)
    · cases hj; exact .inr (.inr (.inl ⟨l, L', ts', h', rfl, h2, h3⟩))
    · cases hj; exact .inr (.inr (.inr ⟨v, ts', h', rfl, h2, h3⟩))

theorem sCode_ok {n : Nat} {R : List GRes} : ∀ (c : SCode) {X G : List (Nat × List Pth)} {e : Env} {h : GHeap} {k : SK} {o : SOut} {ts : GFr}, sCode E call n R c X G e h k = some o → Sub e ts → Post R X G k o (gCode E call n c.erase (ts, h)) := by
  intro c
  induction c with
  | skip => intro X G e h k o ts hs hsub; exact .inl ⟨ts, h, e, rfl, hsub, hs⟩
  | ops l =>
    intro X G e h k o ts hs hsub
    obtain ⟨ts', h', e', h1, h2, h3⟩ := sOps_ok l hs hsub
    refine .inl ⟨ts', h', e', ?_, h2, h3⟩
    show gOpsC E call l (ts, h) = _
    simp only [gOpsC, h1, normalC]
  | items l =>
    intro X G e h k o ts hs hsub
    obtain ⟨ts', h', e', h1, h2, h3⟩ := sItems_ok l hs hsub
    refine .inl ⟨ts', h', e', ?_, h2, h3⟩
    show gOpsC E call (flatI l) (ts, h) = _
    simp only [gOpsC, h1, normalC]
  | drawI l =>
    intro X G e h k o ts hs hsub
    obtain ⟨ts', h', e', h1, h2, h3⟩ := sItems_ok l hs hsub
    exact .inl ⟨ts', h', e', gDrawC_of h1, h2, h3⟩
  | draw chk sw l =>
    intro X G e h k o ts hs hsub
    obtain ⟨ts', h', e', h1, h2, h3⟩ := sDraw_ok hs hsub
    exact .inl ⟨ts', h', e', h1, h2, h3⟩
  | fz t esz agg a =>
    intro X G e h k o ts hs hsub
    obtain ⟨ts', h', e', h1, h2, h3⟩ := sFz_ok hs hsub
    refine .inl ⟨ts', h', e', ?_, h2, h3⟩
    show normalC (gFz esz agg a t ts h) = _
    simp only [h1, normalC]
  | seq a b iha ihb =>
    intro X G e h k o ts hs hsub
    have hg : gCode E call n (SCode.seq a b).erase (ts, h) = thenC (gCode E call n a.erase (ts, h)) (gCode E call n b.erase) := rfl
    rw [hg]
    rcases iha hs hsub with ⟨ts', h', e', h1, h2, h3⟩ | ⟨id, L', ts', h', rfl, h2, h3⟩ | ⟨l, L', ts', h', rfl, h2, h3⟩ | ⟨v, ts', h', rfl, h2, h3⟩
    · rw [h1]; exact ihb h3 h2
    · rw [h3]; exact .inr (.inl ⟨id, L', ts', h', rfl, h2, rfl⟩)
    · rw [h3]; exact .inr (.inr (.inl ⟨l, L', ts', h', rfl, h2, rfl⟩))
    · rw [h2]; exact .inr (.inr (.inr ⟨v, ts', h', rfl, rfl, h3⟩))
  | cond c a b iha ihb =>
    intro X G e h k o ts hs hsub
    obtain ⟨hl, hs⟩ := cond_some hs
    have hg : gCode E call n (SCode.cond c a b).erase (ts, h) = gCond (c.get ts) (gCode E call n a.erase) (gCode E call n b.erase) (ts, h) := rfl
    have hc : evE e c = c.get ts := by rw [evE_eq]; exact arg_agree (hsub.agree hl)
    rw [hg]
    rw [hc] at hs
    unfold sIf at hs
    split at hs
    · rename_i b' hb'
      rw [hb']
      cases b' with
      | true => exact iha hs hsub
      | false => exact ihb hs hsub
    · cases hs
  | join L c ih =>
    intro X G e h k o ts hs hsub
    refine sJoin_ok hs (fun o1 h1 => ih h1 hsub) fun ts' h' h1 h2 => ?_
    exact withVals_ok (hsub.keep fun p hp => gCode_off c (ts, h) (ts', h') _ p hp h1) h2
  | block id L c ih =>
    intro X G e h k o ts hs hsub
    have hg : gCode E call n (SCode.block id L c).erase (ts, h) = inBlockC id (gCode E call n c.erase (ts, h)) := rfl
    rw [hg]
    have hs' : sBlk id (sCode E call n R c ((id, L) :: X) G e h (outV L)) (fun vs h => withVals L vs (keep (writes c) e) fun e => k e h) = some o := hs
    cases hr : sCode E call n R c ((id, L) :: X) G e h (outV L) with
    | none => rw [hr] at hs'; cases hs'
    | some o1 =>
      rw [hr] at hs'
      have hfin : ∀ x ts' h', gCode E call n c.erase (ts, h) = some (x, (ts', h')) → withVals L (L.map (getS ts')) (keep (writes c) e) (fun e => k e h') = some o → ∃ e', Sub e' ts' ∧ k e' h' = some o :=
        fun x ts' h' h1 h2 => withVals_ok (hsub.keep fun p hp => gCode_off c (ts, h) (ts', h') x p hp h1) h2
      rcases ih hr hsub with ⟨ts', h', e', h1, h2, h3⟩ | ⟨id', L', ts', h', rfl, h2, h3⟩ | ⟨l, L', ts', h', rfl, h2, h3⟩ | ⟨v, ts', h', rfl, h2, h3⟩
      · have := outV_ok h2 h3
        subst this
        obtain ⟨e'', h4, h5⟩ := hfin _ ts' h' h1 hs'
        rw [h1]
        exact .inl ⟨ts', h', e'', rfl, h4, h5⟩
      · rw [h3]
        simp only [lkX] at h2
        simp only [sBlk] at hs'
        simp only [inBlockC]
        cases hb : Nat.beq id' id with
        | true =>
          rw [hb] at h2 hs'
          cases h2
          obtain ⟨e'', h4, h5⟩ := hfin _ ts' h' h3 hs'
          exact .inl ⟨ts', h', e'', rfl, h4, h5⟩
        | false =>
          rw [hb] at h2 hs'
          cases hs'
          exact .inr (.inl ⟨id', L', ts', h', rfl, h2, rfl⟩)
      · cases hs'; rw [h3]; exact .inr (.inr (.inl ⟨l, L', ts', h', rfl, h2, rfl⟩))
      · cases hs'; rw [h2]; exact .inr (.inr (.inr ⟨v, ts', h', rfl, rfl, h3⟩))
  | loop L c ih =>
    intro X G e h k o ts hs hsub
    obtain ⟨vs, hv, hs⟩ := bnd_some hs
    have hvs := vals_ok hsub hv
    subst hvs
    have key : ∀ m ts1 h1, (∀ p, p ∉ writes c → getS ts1 p = getS ts p) → sLoop (fun vs h => withVals L vs (keep (writes c) e) fun e => sCode E call n R c X G e h (outV L)) m (L.map (getS ts1)) h1 = some o → Post R X G k o (gLoop (gCode E call n c.erase) m (ts1, h1)) := by
      intro m
      induction m with
      | zero => intro ts1 h1 _ hs1; cases hs1
      | succ m ihm =>
        intro ts1 h1 hoff hs1
        have hs2 : sJoin (withVals L (L.map (getS ts1)) (keep (writes c) e) fun e => sCode E call n R c X G e h1 (outV L)) (sLoop (fun vs h => withVals L vs (keep (writes c) e) fun e => sCode E call n R c X G e h (outV L)) m) = some o := hs1
        have hg : gLoop (gCode E call n c.erase) (m + 1) (ts1, h1) = thenC (gCode E call n c.erase (ts1, h1)) (gLoop (gCode E call n c.erase) m) := rfl
        rw [hg]
        cases hr : withVals L (L.map (getS ts1)) (keep (writes c) e) fun e => sCode E call n R c X G e h1 (outV L) with
        | none => rw [hr] at hs2; cases hs2
        | some o1 =>
          rw [hr] at hs2
          obtain ⟨e', h2, h3⟩ := withVals_ok (hsub.keep hoff) hr
          rcases ih h3 h2 with ⟨ts', h', e', h1', h2, h3⟩ | ⟨id', L', ts', h', rfl, h2, h3⟩ | ⟨l, L', ts', h', rfl, h2, h3⟩ | ⟨v, ts', h', rfl, h2, h3⟩
          · have := outV_ok h2 h3
            subst this
            rw [h1']
            exact ihm ts' h' (fun p hp => by rw [gCode_off c (ts1, h1) (ts', h') _ p hp h1', hoff p hp]) hs2
          · cases hs2; rw [h3]; exact .inr (.inl ⟨id', L', ts', h', rfl, h2, rfl⟩)
          · cases hs2; rw [h3]; exact .inr (.inr (.inl ⟨l, L', ts', h', rfl, h2, rfl⟩))
          · cases hs2; rw [h2]; exact .inr (.inr (.inr ⟨v, ts', h', rfl, rfl, h3⟩))
    exact key n ts h (fun _ _ => rfl) hs
  | exit id =>
    intro X G e h k o ts hs hsub
    obtain ⟨L, hL, hs⟩ := bnd_some hs
    obtain ⟨vs, hv, hs⟩ := bnd_some hs
    cases hs
    rw [vals_ok hsub hv]
    exact .inr (.inl ⟨id, L, ts, h, rfl, hL, rfl⟩)
  | scope c l Lg r La ihc ihr =>
    intro X G e h k o ts hs hsub
    have hoffc : ∀ ts' h' x, gCode E call n c.erase (ts, h) = some (x, (ts', h')) → ∀ p, p ∉ writes c ++ writes r → getS ts' p = getS ts p :=
      fun ts' h' x h1 p hp => gCode_off c (ts, h) (ts', h') x p (fun hm => hp (List.mem_append_left _ hm)) h1
    have key : ∀ m (q : Res) (rs : SRes), (∀ x ts' h', q = some (x, (ts', h')) → ∀ p, p ∉ writes c ++ writes r → getS ts' p = getS ts p) → (∀ o1, rs = some o1 → Post R X ((l, Lg) :: G) (outV La) o1 q) →
        ∀ o2, sJumps l (fun vs h => withVals Lg vs (keep (writes c ++ writes r) e) fun e => sCode E call n R r X ((l, Lg) :: G) e h (outV La)) m rs = some o2 → Post R X G (outV La) o2 (gJumps l (gCode E call n r.erase) m q) := by
      intro m
      induction m with
      | zero => intro q rs _ _ o2 h2; cases h2
      | succ m ihm =>
        intro q rs hq hp o2 h2
        have h2' : sJumpC l rs (fun vs h => sJumps l (fun vs h => withVals Lg vs (keep (writes c ++ writes r) e) fun e => sCode E call n R r X ((l, Lg) :: G) e h (outV La)) m (withVals Lg vs (keep (writes c ++ writes r) e) fun e => sCode E call n R r X ((l, Lg) :: G) e h (outV La))) = some o2 := h2
        cases hrs : rs with
        | none => rw [hrs] at h2'; cases h2'
        | some o1 =>
          rw [hrs] at h2'
          rcases hp o1 hrs with ⟨ts', h', e', h1', g2, g3⟩ | ⟨id', L', ts', h', rfl, g2, g3⟩ | ⟨l', L', ts', h', rfl, g2, g3⟩ | ⟨v, ts', h', rfl, g2, g3⟩
          · have := outV_ok g2 g3
            subst this
            cases h2'
            rw [h1']
            exact .inl ⟨ts', h', e', rfl, g2, g3⟩
          · cases h2'; rw [g3]; exact .inr (.inl ⟨id', L', ts', h', rfl, g2, rfl⟩)
          · rw [g3]
            simp only [lkX] at g2
            have hgj : gJumps l (gCode E call n r.erase) (m + 1) (some (.goto l', (ts', h'))) = (bif Nat.beq l' l then gJumps l (gCode E call n r.erase) m (gCode E call n r.erase (ts', h')) else some (.goto l', (ts', h'))) := rfl
            rw [hgj]
            simp only [sJumpC] at h2'
            cases hb : Nat.beq l' l with
            | true =>
              rw [hb] at g2 h2'
              cases g2
              simp only [cond_true] at h2' ⊢
              refine ihm _ _ (fun x ts2 h2 hx p hp' => ?_) (fun o3 h3' => ?_) o2 h2'
              · rw [gCode_off r (ts', h') (ts2, h2) x p (fun hm => hp' (List.mem_append_right _ hm)) hx]
                exact hq _ ts' h' g3 p hp'
              · obtain ⟨e', h4, h5⟩ := withVals_ok (hsub.keep (hq _ ts' h' g3)) h3'
                exact ihr h5 h4
            | false =>
              rw [hb] at g2 h2'
              cases h2'
              exact .inr (.inr (.inl ⟨l', L', ts', h', rfl, g2, rfl⟩))
          · cases h2'; rw [g2]; exact .inr (.inr (.inr ⟨v, ts', h', rfl, rfl, g3⟩))
    have hoff2 : ∀ x ts' h', gJumps l (gCode E call n r.erase) n (gCode E call n c.erase (ts, h)) = some (x, (ts', h')) → ∀ p, p ∉ writes c ++ writes r → getS ts' p = getS ts p := fun x ts' h' hx p hp =>
      gJumps_off (t0 := getS ts p) (fun s x s' e => gCode_off r s s' x p (fun hm => hp (List.mem_append_right _ hm)) e) n _ x (ts', h') (fun y s1 h1 => hoffc s1.1 s1.2 y h1 p hp) hx
    refine sJoin_ok hs (fun o1 h1 => key n _ _ (fun x ts' h' hx => hoffc ts' h' x hx) (fun o1 h1 => ihc h1 hsub) o1 h1) fun ts' h' h1 h2 => ?_
    exact withVals_ok (hsub.keep (hoff2 _ ts' h' h1)) h2
  | label l => intro X G e h k o ts hs hsub; exact .inl ⟨ts, h, e, rfl, hsub, hs⟩
  | goto l =>
    intro X G e h k o ts hs hsub
    obtain ⟨L, hL, hs⟩ := bnd_some hs
    obtain ⟨vs, hv, hs⟩ := bnd_some hs
    cases hs
    rw [vals_ok hsub hv]
    exact .inr (.inr (.inl ⟨l, L, ts, h, rfl, hL, rfl⟩))
  | ret =>
    intro X G e h k o ts hs hsub
    obtain ⟨v, rfl, hl⟩ := sDone_ok hsub hs
    exact .inr (.inr (.inr ⟨v, ts, h, rfl, rfl, hl⟩))
  | refuse => intro X G e h k o ts hs; cases hs

theorem gFrame_other {p : Pth} : ∀ (args : List GVal) (i : Nat) (ts : GFr), (∀ j, i ≤ j → p ≠ pth j) → getS (gFrame args i ts) p = getS ts p := by
  intro args
  induction args with
  | nil => intro i ts _; rfl
  | cons v args ih =>
    intro i ts hp
    rw [gFrame, ih _ _ fun j hj => hp j (by have : i + 1 ≤ j := hj; omega)]
    exact getS_set_ne _ _ _ _ (hp i (Nat.le_refl _))

theorem argPs_lt {p : Pth} : ∀ {n i : Nat}, p ∈ argPs n i → ∃ j, i ≤ j ∧ p = pth j := by
  intro n
  induction n with
  | zero => intro i h; cases h
  | succ n ih =>
    intro i h
    rcases List.mem_cons.mp h with rfl | h
    · exact ⟨i, Nat.le_refl _, rfl⟩
    · obtain ⟨j, h1, h2⟩ := ih h; exact ⟨j, by omega, h2⟩

theorem args_vals : ∀ (args : List GVal) (n i : Nat) (ts : GFr), args.length = n → (argPs n i).map (getS (gFrame args i ts)) = args := by
  intro args
  induction args with
  | nil => intro n i ts h; subst h; rfl
  | cons v args ih =>
    intro n i ts h
    subst h
    simp only [List.length_cons, argPs, List.map_cons]
    rw [show gFrame (v :: args) i ts = gFrame args (i + 1) (Tr.set v (pth i) ts) from rfl, ih _ _ _ rfl, gFrame_other args (i + 1) _ fun j hj e => by have := pth_inj e; omega, getS_set_same]

theorem withVals_len {k : Env → SRes} {o : SOut} : ∀ {L : List Pth} {vs : List GVal} {e : Env}, withVals L vs e k = some o → vs.length = L.length := by
  intro L
  induction L with
  | nil => intro vs e h; cases vs with | nil => rfl | cons v vs => cases h
  | cons p L ih => intro vs e h; cases vs with | nil => cases h | cons v vs => simp only [List.length_cons]; rw [ih h]

theorem argPs_length : ∀ n i, (argPs n i).length = n := by
  intro n
  induction n with
  | zero => intro i; rfl
  | succ n ih => intro i; simp only [argPs, List.length_cons, ih]

/-- What the swift form of a function finds, the ghost finds. -/
theorem sRun_ok {s : SFunc} {n : Nat} {args : List GVal} {h : GHeap} {r : GVal × GHeap} (hr : sRun s E call n args h = some r) : runF E call n s.erase args h = some r := by
  unfold sRun at hr
  cases hw : withVals (argPs s.nargs 0) args [] fun e => sCode E call n s.results s.body [] [] e h (sDone s.results) with
  | none => rw [hw] at hr; cases hr
  | some o =>
    rw [hw] at hr
    have hlen := withVals_len hw
    rw [argPs_length] at hlen
    have hav := args_vals args s.nargs 0 .nil hlen
    have hw' := hw
    rw [← hav] at hw'
    obtain ⟨e, h1, h2⟩ := withVals_ok (Sub.nil _) hw'
    have hb : Nat.beq args.length s.erase.nargs = true := by rw [hlen]; exact Nat.beq_refl _
    unfold runF
    rw [hb]
    simp only [cond_true]
    have hbody : s.erase.body = s.body.erase := rfl
    have hres : s.erase.results = s.results := rfl
    rw [hbody, hres]
    rcases sCode_ok s.body h2 h1 with ⟨ts', h', e', h1', h2, h3⟩ | ⟨id', L', ts', h', rfl, h2, h3⟩ | ⟨l', L', ts', h', rfl, h2, h3⟩ | ⟨v, ts', h', rfl, h2, h3⟩
    · obtain ⟨v, rfl, hl⟩ := sDone_ok h2 h3
      rw [h1']
      cases hr
      exact hl
    · cases hr
    · cases hr
    · rw [h2]
      cases hr
      exact h3
end
end Go.Gh

/-
  THE GHOST MACHINE: a region that draws its order: one operation's turn.
  No claim is proved here.
-/
namespace Go.Gh

/-- What the check of a region says. -/
structure Stat (es : List (List Nat)) (l : List GOper) (b : List Nat) (chk : List (Nat × Nat)) (sw : Option (Nat × Nat)) : Prop where
  edge : ∀ (i : Nat) (e : List Nat), es[i]? = some e → ∀ k ∈ e, k < i
  dist : Distinct l
  pair : ∀ i j (hi : i < l.length) (hj : j < l.length), i ≠ j → cmpG b i j = true ∨ ((∀ d, l[j].dst = some d → d ∉ l[i].looks) ∧ kindsOk chk sw i j l[i] l[j] = true)
  chk : ∀ p ∈ chk, ∀ (h : p.1 < l.length), ∀ j (hj : j < l.length), p.1 ≤ j → ∀ d, l[j].dst = some d → d ∉ l[p.1].looks
  sw : ∀ p, sw = some p → p.1 < p.2 ∧ p.2 < l.length ∧ (∀ (h : p.1 < l.length), ∀ j (hj : j < l.length), p.1 ≤ j → ∀ d, l[j].dst = some d → d ∉ l[p.1].looks) ∧
    (∀ (h : p.2 < l.length), ∀ j (hj : j < l.length), p.2 ≤ j → ∀ d, l[j].dst = some d → d ∉ l[p.2].looks) ∧
    ∀ k (hk : k < l.length), l[k].op.kind ≠ 0 → k ≠ p.1 → k ≠ p.2 → k < p.1 ∧ (b.getD p.1 0).testBit k = true ∧ (b.getD p.2 0).testBit k = true

theorem edgesLt_spec : ∀ (es : List (List Nat)) (n : Nat), edgesLt es n = true → ∀ i e, es[i]? = some e → ∀ k ∈ e, k < n + i := by
  intro es
  induction es with
  | nil => intro n _ i e h; simp at h
  | cons x es ih =>
    intro n h i e he k hk
    simp only [edgesLt, Bool.and_eq_true, List.all_eq_true] at h
    cases i with
    | zero =>
      simp only [List.getElem?_cons_zero, Option.some.injEq] at he; subst he
      exact Nat.le_of_ble_eq_true (h.1 k hk)
    | succ i =>
      have := ih (Nat.succ n) h.2 i e (by simpa using he) k hk
      have e1 : Nat.succ n = n + 1 := rfl
      omega

theorem offFrom_spec {i : Nat} {l : List GOper} {o : GOper} (h : offFrom i l o = true) : ∀ j (hj : j < l.length), i ≤ j → ∀ d, l[j].dst = some d → d ∉ o.looks := by
  intro j hj hij d hd
  unfold offFrom at h
  rw [List.all_eq_true] at h
  have hm : l[j] ∈ l.drop i := by
    have : l[j] = (l.drop i)[j - i]'(by simp; omega) := by
      simp only [List.getElem_drop]; congr 1; omega
    rw [this]; exact List.getElem_mem _
  exact offs_spec (h _ hm) d hd

theorem stat_of {es : List (List Nat)} {l : List GOper} {b : List Nat} {chk : List (Nat × Nat)} {sw : Option (Nat × Nat)} (h : statics es l b chk sw = true) : Stat es l b chk sw := by
  unfold statics at h
  simp only [Bool.and_eq_true] at h
  obtain ⟨⟨⟨h1, h2⟩, h3⟩, h4⟩ := h
  unfold pairsOk at h2
  simp only [List.all_eq_true] at h2
  have hz : ∀ i (hi : i < l.length), (l[i], i) ∈ l.zipIdx := fun i hi => by
    rw [List.mem_iff_getElem]
    exact ⟨i, by simpa using hi, by simp⟩
  have hp : ∀ i j (hi : i < l.length) (hj : j < l.length), i ≠ j → dstNe l[i] l[j] = true ∧ (cmpG b i j = true ∨ (offs l[j] l[i].looks = true ∧ kindsOk chk sw i j l[i] l[j] = true)) := fun i j hi hj hne => by
    have := h2 _ (hz i hi) _ (hz j hj)
    unfold pairOk at this
    simp only [Bool.or_eq_true, Bool.and_eq_true] at this
    rcases this with h | h
    · exact absurd (Nat.eq_of_beq_eq_true h) hne
    · exact h
  refine ⟨fun i e he k hk => by have := edgesLt_spec es 0 h1 i e he k hk; omega, fun i j hi hj d hdi hdj => ?_, fun i j hi hj hne => ?_, fun p hp' h => ?_, fun p hp' => ?_⟩
  · by_cases e : i = j
    · exact e
    · have := (hp i j hi hj e).1
      unfold dstNe at this
      rw [hdi] at this
      exact absurd (List.mem_singleton.mpr rfl) (offs_spec this d hdj)
  · rcases (hp i j hi hj hne).2 with h | ⟨h, h'⟩
    · exact .inl h
    · exact .inr ⟨fun d hd => offs_spec h d hd, h'⟩
  · unfold chkOk at h3
    rw [List.all_eq_true] at h3
    have := h3 p hp'
    rw [nth_eq, List.getElem?_eq_getElem h] at this
    exact offFrom_spec this
  · unfold swOk at h4
    rw [hp'] at h4
    simp only [Bool.and_eq_true] at h4
    obtain ⟨h5, h6⟩ := h4
    have h5 : p.1 < p.2 := Nat.le_of_ble_eq_true h5
    rw [nth_eq, nth_eq] at h6
    split at h6
    · rename_i oi oj hoi hoj
      have hl1 : p.1 < l.length := by
        rcases Nat.lt_or_ge p.1 l.length with h | h
        · exact h
        · rw [List.getElem?_eq_none h] at hoi; cases hoi
      have hl2 : p.2 < l.length := by
        rcases Nat.lt_or_ge p.2 l.length with h | h
        · exact h
        · rw [List.getElem?_eq_none h] at hoj; cases hoj
      rw [List.getElem?_eq_getElem hl1] at hoi; cases hoi
      rw [List.getElem?_eq_getElem hl2] at hoj; cases hoj
      simp only [Bool.and_eq_true, List.all_eq_true] at h6
      refine ⟨h5, hl2, fun _ => offFrom_spec h6.1.1, fun _ => offFrom_spec h6.1.2, fun k hk h0 h1 h2 => ?_⟩
      have := h6.2 _ (hz k hk)
      simp only [Bool.or_eq_true, Bool.and_eq_true] at this
      rcases this with ((h | h) | h) | h
      · exact absurd (Nat.eq_of_beq_eq_true h) h0
      · exact absurd (Nat.eq_of_beq_eq_true h) h1
      · exact absurd (Nat.eq_of_beq_eq_true h) h2
      · exact ⟨Nat.le_of_ble_eq_true h.1.1, h.1.2, h.2⟩
    · cases h6

/-- Closed under the edges. -/
def Closed (es : List (List Nat)) (S : Nat → Prop) : Prop := ∀ (i : Nat) (e : List Nat), es[i]? = some e → S i → ∀ k ∈ e, S k

section
variable {es : List (List Nat)} {l : List GOper} {chk : List (Nat × Nat)} {sw : Option (Nat × Nat)} {S : Nat → Prop}

theorem bits (hlen : es.length = l.length) (hC : Closed es S) {i : Nat} (hi : i < l.length) (hr : ∀ (e : List Nat), es[i]? = some e → ∀ k ∈ e, S k) : ∀ m, ((befG es 0 []).getD i 0).testBit m = true → S m := by
  have hl : i < es.length := by omega
  exact befG_closed S es hC es 0 [] rfl rfl (fun i h => absurd h (Nat.not_lt_zero _)) i es[i] (List.getElem?_eq_getElem hl) (hr _ (List.getElem?_eq_getElem hl))

/-- What comes in one order alone with i comes in the text's order. -/
theorem ord (hlen : es.length = l.length) (hC : Closed es S) {i j : Nat} (hi : i < l.length) (hj : j < l.length) (hne : i ≠ j) (hni : ¬ S i) (hr : ∀ (e : List Nat), es[i]? = some e → ∀ k ∈ e, S k) (hc : cmpG (befG es 0 []) i j = true) : S j ↔ j < i := by
  unfold cmpG at hc
  cases hb : Nat.blt i j with
  | true =>
    rw [hb] at hc
    simp only [cond_true] at hc
    have hij : i < j := Nat.le_of_ble_eq_true hb
    refine ⟨fun hS => ?_, fun h => by omega⟩
    exact absurd (bits hlen hC hj (fun e he => hC j e he hS) i hc) hni
  | false =>
    rw [hb] at hc
    simp only [cond_false] at hc
    have hij : ¬ i < j := fun h => by
      have : Nat.blt i j = true := Nat.ble_eq_true_of_le h
      rw [hb] at this; cases this
    exact ⟨fun _ => by omega, fun _ => bits hlen hC hi hr j hc⟩
end

/-! ### Two stores change places -/
theorem set_comm {α : Type} (x y : α) : ∀ (p q : Pth) (t : Tr α), p ≠ q → Tr.set x p (Tr.set y q t) = Tr.set y q (Tr.set x p t) := by
  intro p
  induction p with
  | e =>
    intro q t h
    cases q with
    | e => exact absurd rfl h
    | l q => simp
    | r q => simp
  | l p ih =>
    intro q t h
    cases q with
    | e => simp
    | l q => simp only [Tr.set_l, Tr.val_node, Tr.lft_node, Tr.rgt_node]; rw [ih q _ fun e => h (by rw [e])]
    | r q => simp
  | r p ih =>
    intro q t h
    cases q with
    | e => simp
    | l q => simp
    | r q => simp only [Tr.set_r, Tr.val_node, Tr.lft_node, Tr.rgt_node]; rw [ih q _ fun e => h (by rw [e])]

theorem heap_comm (h : GHeap) {k k' : Nat} (hne : k ≠ k') (b b' : GBlock) : (h.set k b).set k' b' = (h.set k' b').set k b := by
  unfold GHeap.set
  simp only
  rw [set_comm _ _ _ _ _ (pth_ne (Ne.symm hne))]

theorem gStore_block {h h' : GHeap} {n k o : Nat} {x : GVal} (hs : gStore h n (.ptr k o) x = some h') : ∃ b, h' = h.set k b ∧ ∀ g : GHeap, g.get k = h.get k → gStore g n (.ptr k o) x = some (g.set k b) := by
  simp only [gStore] at hs
  cases hn : notTup x with
  | false => rw [hn] at hs; cases hs
  | true =>
    rw [hn] at hs
    simp only [cond_true] at hs
    cases hb : h.get k with
    | none => simp [hb, stBlock] at hs
    | some b =>
      cases b <;> simp only [hb, stBlock, reduceCtorEq] at hs
      case cells vals lo gr =>
        unfold stCells at hs
        cases hc : (Nat.beq x.cells.length n && Nat.ble (Nat.add o n) vals.length && Nat.ble lo o) with
        | false => rw [hc] at hs; cases hs
        | true =>
          rw [hc] at hs
          simp only [cond_true, Option.some.injEq] at hs
          refine ⟨_, hs.symm, fun g hg => ?_⟩
          simp only [gStore, hn, cond_true, hg, stBlock, stCells, hc]

theorem swap_stores {h h1 h2 : GHeap} {n n' k k' o o' : Nat} {x x' : GVal} (hne : k ≠ k') (hs : gStore h n (.ptr k o) x = some h1) (hs' : gStore h1 n' (.ptr k' o') x' = some h2) :
    ∃ h1', gStore h n' (.ptr k' o') x' = some h1' ∧ gStore h1' n (.ptr k o) x = some h2 := by
  obtain ⟨b, rfl, hg⟩ := gStore_block hs
  obtain ⟨b', rfl, hg'⟩ := gStore_block hs'
  refine ⟨h.set k' b', hg' h ?_, ?_⟩
  · rw [GHeap.get_set, if_neg (Ne.symm hne)]
  · rw [heap_comm _ hne]
    exact hg _ (by rw [GHeap.get_set, if_neg hne])
end Go.Gh

/-
  THE GHOST MACHINE: a region that draws its order: one operation's turn, whatever stands before it.
  No claim is proved here.
-/
namespace Go.Gh

section
variable {E : GEnv} {call : CallF} {l : List GOper} {T : Nat → GFr} {H : Nat → GHeap} {V : Nat → GVal} {es : List (List Nat)} {chk : List (Nat × Nat)} {sw : Option (Nat × Nat)} {S : Nat → Prop}

theorem Seq.later (hs : Seq E call l T H V) {r : Nat} {p : Pth} : ∀ k, r ≤ k → k ≤ l.length → (∀ j (hj : j < l.length), r ≤ j → j < k → l[j].dst ≠ some p) → getS (T k) p = getS (T r) p := by
  intro k
  induction k with
  | zero => intro h _ _; have : r = 0 := by omega
            subst this; rfl
  | succ k ih =>
    intro h1 h2 h3
    by_cases e : r = k + 1
    · subst e; rfl
    · rw [hs.put k (by omega), getS_put, if_neg (h3 k (by omega) (by omega) (by omega))]
      exact ih (by omega) (by omega) fun j hj h4 h5 => h3 j hj h4 (by omega)

theorem Seq.final_agree (hs : Seq E call l T H V) {r : Nat} (hr : r < l.length) (h : ∀ j (hj : j < l.length), r ≤ j → ∀ d, l[j].dst = some d → d ∉ l[r].looks) : Agree (T l.length) (T r) l[r].looks := fun p hp =>
  hs.later _ (by omega) (Nat.le_refl _) fun j hj h1 _ hd => h j hj h1 p hd hp

/-- A read yields the same in each memory that the checks name. -/
theorem read_any (hs : Seq E call l T H V) (st : Stat es l (befG es 0 []) chk sw) {hl : List GHeap} (hhl : ∀ k, k ≤ l.length → hl[k]? = some (H k)) (hck : chkAll l (T l.length) hl chk = true)
    {i : Nat} (hi : i < l.length) (hk : l[i].op.kind = 1) (hw : wanted (T i) l[i].guard = true) : ∀ p, p ≤ l.length → (∀ e (he : e < l.length), l[e].op.kind = 2 → (p ≤ e ∧ e < i) ∨ (i ≤ e ∧ e < p) → hasN i e chk = true) →
    readAgain l[i].op (H p) (GArg.get (T i)) = some (V i) := by
  have hgood : readAgain l[i].op (H i) (GArg.get (T i)) = some (V i) := by
    have := hs.yes i hi hw
    cases ho : l[i].op with
    | p o => rw [ho] at hk; cases hk
    | e o => rw [ho] at hk; cases hk
    | r o =>
      rw [ho] at this
      simp only [gOp] at this
      simp only [readAgain]
      cases hv : gRead o (H i) (GArg.get (T i)) with
      | none => simp [hv, withH] at this
      | some v => simp only [hv, withH, Option.some.injEq, Prod.mk.injEq] at this; rw [this.1]
  have one : ∀ e, hasN i e chk = true → ∀ q, q = (bif Nat.blt e i then e else Nat.succ e) → q ≤ l.length → readAgain l[i].op (H q) (GArg.get (T i)) = some (V i) := fun e he q hq hql => by
    have hmem := hasN_iff he
    have hall : ∀ (c : List (Nat × Nat)), chkAll l (T l.length) hl c = true → ∀ p ∈ c, chkOne l (T l.length) hl p.1 p.2 = true := fun c => by
      induction c with
      | nil => intro _ p hp; cases hp
      | cons a c ih =>
        intro h p hp
        simp only [chkAll, Bool.and_eq_true] at h
        rcases List.mem_cons.mp hp with rfl | hp
        · exact h.1
        · exact ih h.2 p hp
    have h1 := hall chk hck (i, e) hmem
    have hag := hs.final_agree hi (st.chk (i, e) hmem hi)
    unfold chkOne at h1
    simp only at h1
    rw [nth_eq, List.getElem?_eq_getElem hi] at h1
    simp only at h1
    rw [guard_agree hag, hw] at h1
    simp only [cond_true] at h1
    rw [← hq, nth_eq, hhl q hql] at h1
    cases hd : l[i].dst with
    | none => rw [hd] at h1; cases h1
    | some d =>
      rw [hd] at h1
      simp only at h1
      have hra : readAgain l[i].op (H q) (GArg.get (T l.length)) = readAgain l[i].op (H q) (GArg.get (T i)) := by
        cases ho : l[i].op with
        | p o => rfl
        | e o => rfl
        | r o =>
          simp only [readAgain]
          have : Agree (T l.length) (T i) o.slots := by
            have := hag
            unfold GOper.looks at this
            rw [ho] at this
            exact this.left
          exact read_agree _ this
      rw [hra] at h1
      cases hv : readAgain l[i].op (H q) (GArg.get (T i)) with
      | none => simp [hv] at h1
      | some v =>
        simp only [hv] at h1
        rw [same_eq _ _ h1, hs.written st.dist hi hd _ hi (Nat.le_refl _)]
  -- below
  have down : ∀ m p, p + m = i → (∀ e (he : e < l.length), l[e].op.kind = 2 → p ≤ e → e < i → hasN i e chk = true) → readAgain l[i].op (H p) (GArg.get (T i)) = some (V i) := by
    intro m
    induction m with
    | zero => intro p hp _; have : p = i := by omega
              subst this; exact hgood
    | succ m ih =>
      intro p hp hc
      have hpl1 : p < l.length := by omega
      by_cases hkp : l[p].op.kind = 2
      · refine one p (hc p (by omega) hkp (Nat.le_refl _) (by omega)) p ?_ (by omega)
        have : Nat.blt p i = true := Nat.ble_eq_true_of_le (by omega)
        rw [this]; rfl
      · rw [← hs.still (by omega) hkp]
        exact ih (p + 1) (by omega) fun e he h1 h2 h3 => hc e he h1 (by omega) h3
  have up : ∀ m p, i + m = p → p ≤ l.length → (∀ e (he : e < l.length), l[e].op.kind = 2 → i ≤ e → e < p → hasN i e chk = true) → readAgain l[i].op (H p) (GArg.get (T i)) = some (V i) := by
    intro m
    induction m with
    | zero => intro p hp _ _; have : p = i := by omega
              subst this; exact hgood
    | succ m ih =>
      intro p hp hpl hc
      have hp1 : p - 1 < l.length := by omega
      by_cases hkp : l[p - 1].op.kind = 2
      · refine one (p - 1) (hc (p - 1) hp1 hkp (by omega) (by omega)) p ?_ hpl
        have : Nat.blt (p - 1) i = false := by
          cases hb : Nat.blt (p - 1) i with
          | false => rfl
          | true => have : p - 1 < i := Nat.le_of_ble_eq_true hb
                    omega
        rw [this]
        simp only [cond_false]
        have e1 : Nat.succ (p - 1) = p - 1 + 1 := rfl
        omega
      · have := hs.still hp1 hkp
        rw [show p - 1 + 1 = p by omega] at this
        rw [this]
        exact ih (p - 1) (by omega) (by omega) fun e he h1 h2 h3 => hc e he h1 h2 (by omega)
  intro p hp hc
  rcases Nat.le_total p i with h | h
  · exact down (i - p) p (by omega) fun e he h1 h2 h3 => hc e he h1 (.inl ⟨h2, h3⟩)
  · exact up (p - i) p (by omega) hp fun e he h1 h2 h3 => hc e he h1 (.inr ⟨h2, h3⟩)

/-- The memory when the operations of S are done. -/
inductive HI (E : GEnv) (call : CallF) (l : List GOper) (T : Nat → GFr) (H : Nat → GHeap) (V : Nat → GVal) (S : Nat → Prop) (h : GHeap) : Prop where
  | plain (p : Nat) (hp : p ≤ l.length) (e : h = H p) (hs : ∀ e (he : e < l.length), l[e].op.kind = 2 → (S e ↔ e < p))
  | swapped (x : Nat) (hx : x < l.length) (hk : l[x].op.kind = 2) (hnx : ¬ S x) (hall : ∀ k (hk : k < l.length), l[k].op.kind ≠ 0 → k ≠ x → S k)
      (hw : wanted (T x) l[x].guard = true) (hgo : gOp E call h (GArg.get (T x)) l[x].op = some (V x, H l.length))

theorem storeAt_spec {o : GOper} {t : GFr} {k : Nat} (h : storeAt? o t = some k) : o.guard = none ∧ ∃ n a x off, o.op = .e (.store n a x) ∧ a.get t = .ptr k off := by
  unfold storeAt? at h
  split at h
  · cases h
  · rename_i hg
    refine ⟨hg, ?_⟩
    split at h
    · rename_i n a x ho
      split at h
      · rename_i k' off ha
        simp only [Option.some.injEq] at h; subst h
        exact ⟨n, a, x, off, ho, ha⟩
      · cases h
    · cases h

theorem gOp_store {h h' : GHeap} {ev : Ev} {n : Nat} {a x : GArg} {v : GVal} (hr : gOp E call h ev (.e (.store n a x)) = some (v, h')) : v = gundef ∧ gStore h n (ev a) (ev x) = some h' := by
  simp only [gOp, gEff, gStoreE] at hr
  split at hr
  · rename_i g hg
    simp only [Option.some.injEq, Prod.mk.injEq] at hr
    exact ⟨hr.1.symm, by rw [hg, hr.2]⟩
  · cases hr

theorem gOp_store' {h h' : GHeap} {ev : Ev} {n : Nat} {a x : GArg} (hr : gStore h n (ev a) (ev x) = some h') : gOp E call h ev (.e (.store n a x)) = some (gundef, h') := by
  simp only [gOp, gEff, gStoreE, hr]
end
end Go.Gh

/-
  THE GHOST MACHINE: a region that draws its order: one operation's turn, the sum.
  No claim is proved here.
-/
namespace Go.Gh

section
variable {E : GEnv} {call : CallF} {l : List GOper} {T : Nat → GFr} {H : Nat → GHeap} {V : Nat → GVal} {es : List (List Nat)} {chk : List (Nat × Nat)} {sw : Option (Nat × Nat)} {S : Nat → Prop}

theorem HI.more {h : GHeap} (hh : HI E call l T H V S h) {i : Nat} (hi : i < l.length) (hk : l[i].op.kind ≠ 2) : HI E call l T H V (fun j => S j ∨ j = i) h := by
  cases hh with
  | plain p hp e hs =>
    refine .plain p hp e fun j hj hkj => ?_
    have hne : j ≠ i := fun e => by subst e; exact hk hkj
    exact ⟨fun h => (hs j hj hkj).1 (h.resolve_right hne), fun h => .inl ((hs j hj hkj).2 h)⟩
  | swapped x hx hkx hnx hall hw hgo =>
    have hne : x ≠ i := fun e => by subst e; exact hk hkx
    exact .swapped x hx hkx (fun h => hnx (h.resolve_right hne)) (fun k hk h0 h1 => .inl (hall k hk h0 h1)) hw hgo

theorem kindsOk_12 {i j : Nat} {oi oj : GOper} (h : kindsOk chk sw i j oi oj = true) (h1 : oi.op.kind = 1) (h2 : oj.op.kind = 2) : hasN i j chk = true := by
  unfold kindsOk at h; rw [h1, h2] at h; exact h
theorem kindsOk_22 {i j : Nat} {oi oj : GOper} (h : kindsOk chk sw i j oi oj = true) (h1 : oi.op.kind = 2) (h2 : oj.op.kind = 2) : sw = some (i, j) ∨ sw = some (j, i) := by
  unfold kindsOk at h; rw [h1, h2] at h
  simp only at h
  unfold swIs at h
  split at h
  · rename_i p
    simp only [Bool.or_eq_true, Bool.and_eq_true] at h
    obtain ⟨a, b⟩ := p
    rcases h with ⟨h1, h2⟩ | ⟨h1, h2⟩
    · have e1 : a = i := Nat.eq_of_beq_eq_true h1
      have e2 : b = j := Nat.eq_of_beq_eq_true h2
      exact .inl (by rw [e1, e2])
    · have e1 : a = j := Nat.eq_of_beq_eq_true h1
      have e2 : b = i := Nat.eq_of_beq_eq_true h2
      exact .inr (by rw [e1, e2])
  · cases h

theorem Seq.heap_eq (hs : Seq E call l T H V) {p q : Nat} (hp : p ≤ l.length) (hq : q ≤ l.length) (h : ∀ e (he : e < l.length), l[e].op.kind = 2 → ¬ (p ≤ e ∧ e < q) ∧ ¬ (q ≤ e ∧ e < p)) : H p = H q := by
  rcases Nat.le_total p q with hpq | hpq
  · exact (hs.same_heap q hpq hq fun i hi h1 h2 h3 => (h i hi h3).1 ⟨h1, h2⟩).symm
  · exact hs.same_heap p hpq hp fun i hi h1 h2 h3 => (h i hi h3).2 ⟨h1, h2⟩

theorem turn (hs : Seq E call l T H V) (st : Stat es l (befG es 0 []) chk sw) (hlen : es.length = l.length) {hl : List GHeap} (hhl : ∀ k, k ≤ l.length → hl[k]? = some (H k)) (hck : chkAll l (T l.length) hl chk = true)
    (hswc : chkSw l (T l.length) sw = true) (hC : Closed es S) {i : Nat} (hi : i < l.length) (hni : ¬ S i) (hr : ∀ (e : List Nat), es[i]? = some e → ∀ k ∈ e, S k) {t : GFr} (hcur : Cur l T V S t) {h : GHeap} (hh : HI E call l T H V S h) :
    (wanted t l[i].guard = true ∧ ∃ h', gOp E call h (GArg.get t) l[i].op = some (V i, h') ∧ HI E call l T H V (fun j => S j ∨ j = i) h') ∨
    (wanted t l[i].guard = false ∧ V i = gundef ∧ HI E call l T H V (fun j => S j ∨ j = i) h) := by
  have hord : ∀ j (hj : j < l.length), j ≠ i → cmpG (befG es 0 []) i j = true → (S j ↔ j < i) := fun j hj hne hc => ord hlen hC hi hj (Ne.symm hne) hni hr hc
  have hagr : Agree t (T i) l[i].looks := hcur.agree hs st.dist hi hni fun j hj hne => by
    rcases st.pair i j hi hj (Ne.symm hne) with hc | hc
    · exact .inr (hord j hj hne hc)
    · exact .inl hc.1
  have hg := guard_agree hagr
  have hsl : Agree t (T i) l[i].op.slots := by
    have := hagr
    unfold GOper.looks at this
    exact this.left
  have hop : ∀ g, gOp E call g (GArg.get t) l[i].op = gOp E call g (GArg.get (T i)) l[i].op := fun g => op_agree E call g hsl
  rw [hg]
  -- an effect, all others in the text's order
  have plainEff : ∀ p, p ≤ l.length → (∀ e (he : e < l.length), l[e].op.kind = 2 → (S e ↔ e < p)) → l[i].op.kind = 2 → (∀ e (he : e < l.length), l[e].op.kind = 2 → e ≠ i → (S e ↔ e < i)) →
      H p = H i ∧ HI E call l T H V (fun j => S j ∨ j = i) (H (i + 1)) := fun p hp hps hk2 hall => by
    refine ⟨hs.heap_eq hp (by omega) fun e he hke => ?_, .plain (i + 1) (by omega) rfl fun e he hke => ?_⟩
    · by_cases hei : e = i
      · subst hei
        exact ⟨fun h => by omega, fun h => hni ((hps e he hke).2 h.2)⟩
      · have h1 := hps e he hke
        have h2 := hall e he hke hei
        exact ⟨fun h => absurd (h1.1 (h2.2 h.2)) (by omega), fun h => absurd (h2.1 (h1.2 h.2)) (by omega)⟩
    · by_cases hei : e = i
      · subst hei; exact ⟨fun _ => by omega, fun _ => .inr rfl⟩
      · have h2 := hall e he hke hei
        exact ⟨fun h => by have := h2.1 (h.resolve_right hei); omega, fun h => .inl (h2.2 (by omega))⟩
  cases hw : wanted (T i) l[i].guard with
  | false =>
    refine .inr ⟨rfl, (hs.no i hi hw).1, ?_⟩
    by_cases hk2 : l[i].op.kind = 2
    · cases hh with
      | plain p hp e hps =>
        subst e
        by_cases hall : ∀ e (he : e < l.length), l[e].op.kind = 2 → e ≠ i → (S e ↔ e < i)
        · obtain ⟨h1, h2⟩ := plainEff p hp hps hk2 hall
          rw [h1, ← (hs.no i hi hw).2]; exact h2
        · exfalso
          apply hall
          intro e he hke hei
          rcases st.pair i e hi he (Ne.symm hei) with hc | hc
          · exact hord e he hei hc
          · exfalso
            have hgn : l[i].guard = none := by
              rcases kindsOk_22 hc.2 hk2 hke with hsw | hsw
              · rw [hsw] at hswc
                unfold chkSw at hswc
                simp only [nth_eq, List.getElem?_eq_getElem hi, List.getElem?_eq_getElem he] at hswc
                cases hst : storeAt? l[i] (T l.length) with
                | none => simp [hst] at hswc
                | some k => exact (storeAt_spec hst).1
              · rw [hsw] at hswc
                unfold chkSw at hswc
                simp only [nth_eq, List.getElem?_eq_getElem hi, List.getElem?_eq_getElem he] at hswc
                cases hst : storeAt? l[i] (T l.length) with
                | none => simp [hst] at hswc
                | some k => exact (storeAt_spec hst).1
            rw [hgn] at hw; cases hw
      | swapped x hx hkx hnx hall hwx hgo =>
        have : i = x := by
          by_cases e : i = x
          · exact e
          · exact absurd (hall i hi (by rw [hk2]; decide) e) hni
        subst this
        rw [hwx] at hw; cases hw
    · exact hh.more hi hk2
  | true =>
    refine .inl ⟨rfl, ?_⟩
    have hyes := hs.yes i hi hw
    by_cases hk2 : l[i].op.kind = 2
    · cases hh with
      | swapped x hx hkx hnx hall hwx hgo =>
        have : i = x := by
          by_cases e : i = x
          · exact e
          · exact absurd (hall i hi (by rw [hk2]; decide) e) hni
        subst this
        refine ⟨H l.length, by rw [hop]; exact hgo, .plain l.length (Nat.le_refl _) rfl fun e he hke => ⟨fun _ => he, fun _ => ?_⟩⟩
        by_cases hei : e = i
        · exact .inr hei
        · exact .inl (hall e he (by rw [hke]; decide) hei)
      | plain p hp e hps =>
        subst e
        by_cases hall : ∀ e (he : e < l.length), l[e].op.kind = 2 → e ≠ i → (S e ↔ e < i)
        · obtain ⟨h1, h2⟩ := plainEff p hp hps hk2 hall
          exact ⟨H (i + 1), by rw [hop, h1]; exact hyes, h2⟩
        · -- a store ahead of the one that stands before it
          have : ∃ x, x < l.length ∧ sw = some (x, i) ∧ ¬ S x := by
            apply Classical.byContradiction
            intro hno
            apply hall
            intro e he hke hei
            rcases st.pair i e hi he (Ne.symm hei) with hc | hc
            · exact hord e he hei hc
            · rcases kindsOk_22 hc.2 hk2 hke with hsw | hsw
              · have hlt := (st.sw _ hsw).1
                simp only at hlt
                have hnS : ¬ S e := fun h => hni ((hps i hi hk2).2 (by have := (hps e he hke).1 h; omega))
                exact ⟨fun h => absurd h hnS, fun h => by omega⟩
              · have hlt := (st.sw _ hsw).1
                simp only at hlt
                refine ⟨fun _ => hlt, fun _ => ?_⟩
                apply Classical.byContradiction
                intro hnS
                exact hno ⟨e, he, hsw, hnS⟩
          obtain ⟨x, hx, hsw, hnx⟩ := this
          obtain ⟨hxi, _, hfx, hfi, hoth⟩ := st.sw _ hsw
          simp only at hxi hfx hfi hoth
          have hSk : ∀ k (hk : k < l.length), l[k].op.kind ≠ 0 → k ≠ x → k ≠ i → S k := fun k hk h0 h1 h2 => bits hlen hC hi hr k (hoth k hk h0 h1 h2).2.2
          have hHp : H p = H x := hs.heap_eq hp (by omega) fun e he hke => by
            have h0 : l[e].op.kind ≠ 0 := by rw [hke]; decide
            have h1 := hps e he hke
            refine ⟨fun h => ?_, fun h => ?_⟩
            · have := h1.1 (hSk e he h0 (by omega) (by omega)); omega
            · have hS := h1.2 h.2
              have hne : e ≠ x := fun e' => by subst e'; exact hnx hS
              have hne' : e ≠ i := fun e' => by subst e'; exact hni hS
              have := (hoth e he h0 hne hne').1; omega
          have hHi : H i = H (x + 1) := hs.heap_eq (by omega) (by omega) fun e he hke => by
            have h0 : l[e].op.kind ≠ 0 := by rw [hke]; decide
            refine ⟨fun h => by omega, fun h => ?_⟩
            have := (hoth e he h0 (by omega) (by omega)).1; omega
          have hHn : H l.length = H (i + 1) := hs.heap_eq (Nat.le_refl _) (by omega) fun e he hke => by
            have h0 : l[e].op.kind ≠ 0 := by rw [hke]; decide
            refine ⟨fun h => by omega, fun h => ?_⟩
            have := (hoth e he h0 (by omega) (by omega)).1; omega
          rw [hsw] at hswc
          unfold chkSw at hswc
          simp only [nth_eq, List.getElem?_eq_getElem hi, List.getElem?_eq_getElem hx] at hswc
          cases hsx : storeAt? l[x] (T l.length) with
          | none => simp [hsx] at hswc
          | some k =>
            cases hsi : storeAt? l[i] (T l.length) with
            | none => simp [hsx, hsi] at hswc
            | some k' =>
              simp only [hsx, hsi, Bool.not_eq_true'] at hswc
              have hkk : k ≠ k' := fun e => by subst e; rw [Nat.beq_refl] at hswc; cases hswc
              obtain ⟨hgx, n1, a1, x1, o1, hox, ha1⟩ := storeAt_spec hsx
              obtain ⟨hgi, n2, a2, x2, o2, hoi, ha2⟩ := storeAt_spec hsi
              have hax := hs.final_agree hx (hfx hx)
              have hai := hs.final_agree hi (hfi hi)
              have hwx : wanted (T x) l[x].guard = true := by rw [hgx]; rfl
              have hyx := hs.yes x hx hwx
              unfold GOper.looks at hax hai
              rw [hox] at hax hyx
              rw [hoi] at hai hyes
              obtain ⟨hvx, hstx⟩ := gOp_store hyx
              obtain ⟨hvi, hsti⟩ := gOp_store hyes
              have e1 : a1.get (T x) = .ptr k o1 := by rw [← arg_agree hax.left.left]; exact ha1
              have e2 : a2.get (T i) = .ptr k' o2 := by rw [← arg_agree hai.left.left]; exact ha2
              rw [e1] at hstx
              rw [e2, hHi] at hsti
              obtain ⟨h1', hs1, hs2⟩ := swap_stores hkk hstx hsti
              refine ⟨h1', ?_, .swapped x hx (by rw [hox]; rfl) (fun h => hnx (h.resolve_right (by omega))) (fun k hk h0 h1 => ?_) hwx ?_⟩
              · rw [hop, hHp, hoi, hvi]
                exact gOp_store' (by rw [e2]; exact hs1)
              · by_cases hki : k = i
                · exact .inr hki
                · exact .inl (hSk k hk h0 h1 hki)
              · rw [hox, hvx, hHn]
                exact gOp_store' (by rw [e1]; exact hs2)
    · by_cases hk1 : l[i].op.kind = 1
      · cases hh with
        | swapped x hx hkx hnx hall hwx hgo =>
          exact absurd (hall i hi (by rw [hk1]; decide) (fun e => by subst e; rw [hk1] at hkx; cases hkx)) hni
        | plain p hp e hps =>
          have hread := read_any hs st hhl hck hi hk1 hw p hp fun e' he hke hbt => by
            have hei : e' ≠ i := fun e'' => by subst e''; rw [hk1] at hke; cases hke
            rcases st.pair i e' hi he (Ne.symm hei) with hc | hc
            · exfalso
              have h1 := hord e' he hei hc
              have h2 := hps e' he hke
              rcases hbt with hb | hb
              · have := h2.1 (h1.2 hb.2); omega
              · have := h1.1 (h2.2 hb.2); omega
            · exact kindsOk_12 hc.2 hk1 hke
          refine ⟨h, ?_, (HI.plain p hp e hps : HI E call l T H V S h).more hi hk2⟩
          subst e
          rw [hop]
          cases ho : l[i].op with
          | p o => rw [ho] at hk1; cases hk1
          | e o => rw [ho] at hk2; exact absurd rfl hk2
          | r o =>
            rw [ho] at hread
            simp only [readAgain] at hread
            simp only [gOp, hread, withH]
      · refine ⟨h, ?_, hh.more hi hk2⟩
        rw [hop]
        cases ho : l[i].op with
        | r o => rw [ho] at hk1; exact absurd rfl hk1
        | e o => rw [ho] at hk2; exact absurd rfl hk2
        | p o =>
          rw [ho] at hyes
          simp only [gOp] at hyes ⊢
          cases hv : gPure o (GArg.get (T i)) with
          | none => simp [hv, withH] at hyes
          | some v =>
            simp only [hv, withH, Option.some.injEq, Prod.mk.injEq] at hyes ⊢
            exact ⟨hyes.1, trivial⟩
end
end Go.Gh

/-
  THE GHOST MACHINE: a region that draws its order is sound.
  No claim is proved here.
-/
namespace Go.Gh

section
variable {P : Program} {C : GCfg}

theorem gOpers_get (ops : Array Oper) : ∀ (rest : List Oper) (i : Nat) (l : List GOper), gOpers P C ops i rest = some l → l.length = rest.length ∧
    ∀ j (h1 : j < rest.length) (h2 : j < l.length), ∃ g gd, gOpOf P C (i + j) rest[j] = some g ∧ gGuard ops rest[j].guard = some gd ∧ l[j] = { dst := rest[j].dst.map pth, op := g, guard := gd } := by
  intro rest
  induction rest with
  | nil => intro i l h; simp only [gOpers, Option.some.injEq] at h; subst h; exact ⟨rfl, fun j h1 => absurd h1 (Nat.not_lt_zero _)⟩
  | cons o rest ih =>
    intro i l h
    simp only [gOpers] at h
    split at h
    · rename_i g gd r hg hgd hr
      simp only [Option.some.injEq] at h; subst h
      obtain ⟨hl, hh⟩ := ih (i + 1) r hr
      refine ⟨by simp [hl], fun j h1 h2 => ?_⟩
      cases j with
      | zero => exact ⟨g, gd, hg, hgd, rfl⟩
      | succ j =>
        obtain ⟨g', gd', e1, e2, e3⟩ := hh j (by simpa using h1) (by simpa using h2)
        exact ⟨g', gd', by rw [show i + (j + 1) = i + 1 + j by omega]; exact e1, e2, e3⟩
    · cases h

theorem mem_edges {o : Oper} {k : Nat} : k ∈ edgesOf o ↔ ∃ e ∈ o.after, Region.binds .any e = true ∧ e.on = k := by
  unfold edgesOf
  simp only [List.mem_map, List.mem_filter, Array.mem_toList_iff]
  constructor
  · rintro ⟨e, ⟨h1, h2⟩, h3⟩; exact ⟨e, h1, h2, h3⟩
  · rintro ⟨e, h1, h2, h3⟩; exact ⟨e, ⟨h1, h2⟩, h3⟩

theorem draws (E : GEnv) (call : CallF) (hT : Told P C E call) : Draws P C E call := by
  intro base W0 N Γ hp id ops Q l chk sw ts gh a w s hl hst hd hC hA hW hdraw hQ
  obtain ⟨hlen, hget⟩ := gOpers_get ops ops.toList 0 l hl
  have hn : l.length = ops.size := by rw [hlen]; simp
  have st := stat_of hst
  have hes : (ops.toList.map edgesOf).length = l.length := by rw [hn]; simp
  have hesg : ∀ (i : Nat) (e : List Nat), (ops.toList.map edgesOf)[i]? = some e ↔ ∃ o, ops[i]? = some o ∧ e = edgesOf o := fun i e => by
    rw [List.getElem?_map, Array.getElem?_toList]
    cases ops[i]? with
    | none => simp
    | some o => simp [eq_comm]
  unfold gDrawC at hdraw
  simp only at hdraw
  cases hr : gOpsT E call l ts gh with
  | none => rw [hr] at hdraw; cases hdraw
  | some r =>
    obtain ⟨tsF, ghF, hsl⟩ := r
    rw [hr] at hdraw
    simp only [chkC] at hdraw
    cases hck : (chkAll l tsF hsl chk && chkSw l tsF sw) with
    | false => rw [hck] at hdraw; cases hdraw
    | true =>
      rw [hck] at hdraw
      simp only [cond_true, Option.some.injEq, Prod.mk.injEq, true_and] at hdraw
      subst hdraw
      simp only [Bool.and_eq_true] at hck
      obtain ⟨T, H, V, eT0, eH0, eT, eH, hhl, hs⟩ := seq_of l ts gh tsF ghF hsl hr
      rw [← eT] at hck
      refine wp_region_any hT.mixed ?_
      have key : ∀ (fuel : Nat) (listed : Array Bool) (Γ' : Gam) (a' : Act) (t : GFr) (h : GHeap) (w' : World), listed.size = ops.size → listed.toList.count false = fuel → Γ.le Γ' → Closed (ops.toList.map edgesOf) (fun j => listed.getD j false = true) →
          Cur l T V (fun j => listed.getD j false = true) t → HI E call l T H V (fun j => listed.getD j false = true) h → AR N Γ' a' t → WRel base W0 Γ' h w' → wpAny P .any ops Q fuel listed a' w' := by
        -- all are done
        have fin : ∀ (listed : Array Bool) (Γ' : Gam) (a' : Act) (t : GFr) (h : GHeap) (w' : World), Γ.le Γ' → (∀ i, i < l.length → listed.getD i false = true) → Cur l T V (fun j => listed.getD j false = true) t →
            HI E call l T H V (fun j => listed.getD j false = true) h → AR N Γ' a' t → WRel base W0 Γ' h w' → Q .normal a' w' := by
          intro listed Γ' a' t h w' hle hall hcur hhi hA' hW'
          have hh : h = ghF := by
            cases hhi with
            | plain p hp e hps =>
              rw [e, ← eH]
              exact hs.heap_eq hp (Nat.le_refl _) fun e he hk => ⟨fun h => by have := (hps e he hk).1 (hall e he); omega, fun h => by omega⟩
            | swapped x hx hkx hnx _ _ _ => exact absurd (hall x hx) hnx
          subst hh
          refine hQ a' w' ⟨Γ', hle, ⟨⟨fun i => ?_, hA'.rel.def_⟩, hA'.size⟩, hW'⟩
          have := hA'.rel.tmp i
          rw [hcur.all hs st.dist hall, eT] at this
          exact this
        -- who waits for nobody is ready
        have least : ∀ (listed : Array Bool), listed.size = ops.size → Region.ready .any ops listed = [] → ∀ i, i < l.length → listed.getD i false = true := by
          intro listed hsz hrd i
          induction i using Nat.strongRecOn with
          | _ i ih =>
            intro hi
            cases hb : listed.getD i false with
            | true => rfl
            | false =>
              exfalso
              have hi' : i < ops.size := by omega
              have : i ∈ Region.ready .any ops listed := by
                rw [mem_ready]
                refine ⟨?_, ops[i], Array.getElem?_eq_getElem hi', fun e he hbd => ?_⟩
                · have hil : i < listed.size := by omega
                  simp only [Array.getD_eq_getD_getElem?, Array.getElem?_eq_getElem hil, Option.getD_some] at hb ⊢
                  exact hb
                · have hk : e.on < i := st.edge i (edgesOf ops[i]) ((hesg i _).2 ⟨_, Array.getElem?_eq_getElem hi', rfl⟩) e.on (mem_edges.2 ⟨e, he, hbd, rfl⟩)
                  exact ih e.on hk (by omega)
              rw [hrd] at this; cases this
        intro fuel
        induction fuel with
        | zero =>
          intro listed Γ' a' t h w' hsz hcnt hle hcl hcur hhi hA' hW'
          have hall : ∀ i, i < l.length → listed.getD i false = true := fun i hi => by
            have hi' : i < listed.size := by omega
            have hnm : false ∉ listed.toList := List.count_eq_zero.mp hcnt
            have hm : listed[i] ∈ listed.toList := by simp
            simp only [Array.getD_eq_getD_getElem?, Array.getElem?_eq_getElem hi', Option.getD_some]
            cases hb : listed[i] with
            | true => rfl
            | false => rw [hb] at hm; exact absurd hm hnm
          refine ⟨?_, fin listed Γ' a' t h w' hle hall hcur hhi hA' hW'⟩
          apply List.eq_nil_iff_forall_not_mem.mpr
          intro i hi
          obtain ⟨h0, o, ho, _⟩ := mem_ready.1 hi
          have hi' : i < ops.size := (Array.getElem?_eq_some_iff.1 ho).1
          have h1 := hall i (by omega)
          have hil : i < listed.size := by omega
          simp only [Array.getD_eq_getD_getElem?, Array.getElem?_eq_getElem hil, Option.getD_some] at h0 h1
          rw [h0] at h1; cases h1
        | succ fuel ih =>
          intro listed Γ' a' t h w' hsz hcnt hle hcl hcur hhi hA' hW'
          refine ⟨fun hrd => fin listed Γ' a' t h w' hle (least listed hsz hrd) hcur hhi hA' hW', fun i hi => ?_⟩
          obtain ⟨h0, o, ho, hed⟩ := mem_ready.1 hi
          have hi' : i < ops.size := (Array.getElem?_eq_some_iff.1 ho).1
          have hil : i < l.length := by omega
          have hli : i < listed.size := by omega
          have hot : i < ops.toList.length := by simpa using hi'
          have h0' : listed[i] = false := by simpa [Array.getD_eq_getD_getElem?, Array.getElem?_eq_getElem hli] using h0
          have hoo : ops.toList[i] = o := by
            rw [Array.getElem?_eq_getElem hi'] at ho
            simpa using ho
          obtain ⟨g, gd, hg, hgd, hli2⟩ := hget i hot hil
          rw [hoo] at hg hgd hli2
          rw [Nat.zero_add] at hg
          have hready : ∀ (e : List Nat), (ops.toList.map edgesOf)[i]? = some e → ∀ k ∈ e, listed.getD k false = true := fun e he k hk => by
            obtain ⟨o', ho', rfl⟩ := (hesg i e).1 he
            rw [ho] at ho'; cases ho'
            obtain ⟨ed, h1, h2, rfl⟩ := mem_edges.1 hk
            exact hed ed h1 h2
          have hni : ¬ (listed.getD i false = true) := by
            simp [Array.getD_eq_getD_getElem?, Array.getElem?_eq_getElem hli, h0']
          have hS : (fun j => (listed.setIfInBounds i true).getD j false = true) = fun j => listed.getD j false = true ∨ j = i := by
            funext j
            apply propext
            by_cases e : j = i
            · subst e; simp [hli]
            · simp only [e, or_false]
              rw [getD_set_ne false (Ne.symm e)]
          have hcount : (listed.setIfInBounds i true).toList.count false = fuel := by
            rw [Array.toList_setIfInBounds, List.count_set (by simpa using hli)]
            have : listed.toList[i]'(by simpa using hli) = false := by simpa using h0'
            rw [this, hcnt]
            simp
          have hcl' : Closed (ops.toList.map edgesOf) (fun j => (listed.setIfInBounds i true).getD j false = true) := by
            rw [hS]
            intro j e he hj k hk
            rcases hj with hj | rfl
            · exact .inl (hcl j e he hj k hk)
            · exact .inl (hready e he k hk)
          have hdi : ∀ d, o.dst = some d → d < N := hd o (by rw [← hoo]; exact List.getElem_mem hot)
          have hCΓ : CfgOK P { C with heap := hp } Γ' := hC.mono hle
          have hT' : Told P { C with heap := hp } E call := hT.heap hp
          have hcur' := hcur.step st.dist hil
          unfold wpOp
          simp only [ho]
          rw [guard_rel hA'.rel hgd]
          have hgdl : l[i].guard = gd := by rw [hli2]
          have hopl : l[i].op = g := by rw [hli2]
          have hdl : l[i].dst = o.dst.map pth := by rw [hli2]
          rcases turn hs st hes hhl hck.1 hck.2 hcl hil hni hready hcur hhi with ⟨hw1, h', hgo, hhi'⟩ | ⟨hw1, hv, hhi'⟩
          · rw [hgdl] at hw1
            rw [hw1]
            simp only [if_true]
            rw [hopl] at hgo
            refine .inl ((op_sound hCΓ hA'.rel hW' hT'.meth hT'.call i o g hg _ hgo).wp _ _ fun v w'' hans => ?_)
            obtain ⟨Γ'', hle', hvr, hW''⟩ := hans
            refine ih _ Γ'' _ _ h' w'' (by simpa using hsz) hcount (hle.trans hle') hcl' ?_ ?_ ((hA'.mono hle').put o.dst hdi hvr) hW''
            · rw [hS, ← hdl]; exact hcur'
            · rw [hS]; exact hhi'
          · rw [hgdl] at hw1
            rw [hw1]
            simp only [Bool.false_eq_true, if_false]
            refine ih _ Γ' _ _ h w' (by simpa using hsz) hcount hle hcl' ?_ ?_ (hA'.put o.dst hdi (.undef Γ')) hW'
            · rw [hS, ← hdl, ← hv]; exact hcur'
            · rw [hS]; exact hhi'
      refine key ops.size (Array.replicate ops.size false) Γ a ts gh { w with drawn := w.drawn + 1 } (by simp) (by simp) (Gam.le_refl _) ?_ ?_ ?_ hA (hW.same rfl rfl rfl rfl)
      · intro i e he hS; exfalso
        simp only [Array.getD_eq_getD_getElem?, Array.getElem?_replicate] at hS
        split at hS <;> simp at hS
      · rw [← eT0]
        refine Cur.start _ fun i hS => ?_
        simp only [Array.getD_eq_getD_getElem?, Array.getElem?_replicate] at hS
        split at hS <;> simp at hS
      · refine .plain 0 (Nat.zero_le _) eH0.symm fun e he hk => ⟨fun hS => ?_, fun h => by omega⟩
        simp only [Array.getD_eq_getD_getElem?, Array.getElem?_replicate] at hS
        split at hS <;> simp at hS
end
end Go.Gh

/-
  THE GHOST MACHINE: what the ghost reckons, the program does, in every world and under every tape.
  No claim is proved here.
-/
namespace Go.Gh

/-- All that is told of a program. -/
structure Fits (P : Program) (C : GCfg) (E : GEnv) : Prop where
  fn : EnvFn P C E
  ext : ExtOK P C E
  meth : MethOK P C E
  mixed : P.follows .mixedOrders = true

theorem sound {P : Program} {C : GCfg} {E : GEnv} (h : Fits P C E) (n : Nat) : CallOK P C (gCall E n) :=
  gCall_sound h.fn h.ext h.meth h.mixed (fun _ call hT => draws E call hT) n

/-- No memory at all. -/
def Gam.none : Gam := ⟨fun _ => Option.none, fun _ => Option.none, fun _ _ => Option.none, fun _ => Option.none⟩
theorem wrel_empty (w : World) : WRel w.heap.size w Gam.none .empty w := by
  refine ⟨⟨rfl, rfl, rfl, Nat.le_refl _, fun _ _ => rfl⟩, Nat.le_refl _, fun r o v e => by simp [Gam.none] at e, fun _ _ => rfl, fun _ _ => rfl, fun k b e => ?_, fun k k' b b' r _ e => ?_⟩
  · have hn : ∀ p, Tr.get p (Tr.nil : Tr GBlock) = Option.none := fun p => by
      induction p with
      | e => rfl
      | l p ih => exact ih
      | r p ih => exact ih
    simp [GHeap.get, GHeap.empty, hn] at e
  · have hn : ∀ p, Tr.get p (Tr.nil : Tr GBlock) = Option.none := fun p => by
      induction p with
      | e => rfl
      | l p ih => exact ih
      | r p ih => exact ih
    simp [GHeap.get, GHeap.empty, hn] at e
end Go.Gh

/-
  THE GHOST MACHINE, FOURTH TEXT: functions of which the ghost knows the answer by a rule of its own; a table of ghosts.
  No claim is proved here.
-/
namespace Go.Gh
noncomputable section
inductive FTree where
  | leaf
  | node (k : Nat) (f : GFunc) (l r : FTree)
def FTree.find : FTree → Nat → Option GFunc
  | .leaf, _ => none
  | .node k f l r, n => bif Nat.beq n k then some f else bif Nat.blt n k then l.find n else r.find n
def prefixOf (x : List Nat) : List Nat → Bool :=
  @List.rec Nat (fun _ => List Nat → Bool) (fun _ => true)
    (fun a _ ih y => @List.rec Nat (fun _ => Bool) false (fun b y _ => @Bool.rec (fun _ => Bool) false (ih y) (Nat.beq a b)) y) x
theorem prefixOf_nil (y : List Nat) : prefixOf [] y = true := rfl
theorem prefixOf_cons_nil (a : Nat) (x : List Nat) : prefixOf (a :: x) [] = false := rfl
theorem prefixOf_cons (a b : Nat) (x y : List Nat) : prefixOf (a :: x) (b :: y) = (Nat.beq a b && prefixOf x y) := by
  show @Bool.rec (fun _ => Bool) false (prefixOf x y) (Nat.beq a b) = _
  cases Nat.beq a b <;> rfl
def indexOf (t : List Nat) : List Nat → Nat → Int
  | [], i => bif t.isEmpty then .ofNat i else .negSucc 0
  | b :: s, i => bif prefixOf t (b :: s) then .ofNat i else indexOf t s (Nat.succ i)
def indexByte (b : Nat) : List Nat → Nat → Int
  | [], _ => .negSucc 0
  | c :: s, i => bif Nat.beq c b then .ofNat i else indexByte b s (Nat.succ i)
abbrev Ext := List GVal → GHeap → Option (GVal × GHeap)
def extIndex : Ext := fun args h => match args with | [.str s, .str t] => bif Nat.blt s.length 4294967281 then some (.int .i64 (indexOf t s 0), h) else none | _ => none
def extIndexByte : Ext := fun args h => match args with | [.str s, .int .u8 (.ofNat b)] => bif Nat.blt b 256 then some (.int .i64 (indexByte b s 0), h) else none | _ => none
/-- The names and numbers in n pairs of cells. -/
def knownOf (vs : List GVal) : Nat → Nat → Option (List (List Nat × Int))
  | 0, _ => some []
  | n + 1, o =>
    match nth vs o, nth vs (Nat.succ o), knownOf vs n (Nat.add o 2) with
    | some (.str s), some (.int .i64 m), some r => some ((s, m) :: r)
    | _, _, _ => none
/-- The last pair of that name. -/
def lastOf (name : List Nat) : List (List Nat × Int) → Option Int
  | [] => none
  | p :: r => match lastOf name r with | some v => some v | none => bif natsSame p.1 name then some p.2 else none
def foundV (r : Option Int) : GVal := match r with | some m => .tuple [.int .i64 m, .bool true] | none => .tuple [.int .i64 (.ofNat 0), .bool false]
def findIn2 (h : GHeap) (name : List Nat) (l : Option (List (List Nat × Int))) : Option (GVal × GHeap) := match l with | some l => some (foundV (lastOf name l), h) | none => none
def extFind : Ext := fun args h =>
  match args with
  | [.ptr k off, .str name] =>
    match h.get k with
    | some (.cells vals _ _) =>
      match nth vals (Nat.add off 2) with
      | some .nils => some (foundV none, h)
      | some (.hsl b o n 2) =>
        match h.get b with
        | some (.cells vs _ _) => bif Nat.ble n 1000000000000 then findIn2 h name (knownOf vs n o) else none
        | _ => none
      | _ => none
    | _ => none
  | _ => none
def isTrue : Option (GVal × GHeap) → Bool | some (.bool true, _) => true | _ => false
end
end Go.Gh

/-
  THE GHOST MACHINE: functions whose answer is known by a contract.
  No claim is proved here.
-/
namespace Go.Gh

theorem prefixOf_eq : ∀ (t l : List UInt8), prefixOf (t.map (·.toNat)) (l.map (·.toNat)) = t.isPrefixOf l := by
  intro t
  induction t with
  | nil => intro l; cases l <;> simp [prefixOf_nil]
  | cons a t ih =>
    intro l
    cases l with
    | nil => simp [prefixOf_cons_nil]
    | cons b l =>
      simp only [List.map_cons, prefixOf_cons, ih, List.isPrefixOf]
      congr 1
      rw [beq_bool]
      by_cases h : a = b
      · subst h; simp
      · have : ¬ a.toNat = b.toNat := fun e => h (UInt8.toNat_inj.mp e)
        simp [this, h]

theorem indexOf_eq (t : List UInt8) : ∀ (l : List UInt8) (i : Nat), indexOf (t.map (·.toNat)) (l.map (·.toNat)) i = if Lib.index l t = -1 then -1 else Lib.index l t + i := by
  intro l
  induction l with
  | nil =>
    intro i
    simp only [List.map_nil, indexOf, Lib.index]
    cases t with
    | nil => simp
    | cons a t => rfl
  | cons b l ih =>
    intro i
    have hp := prefixOf_eq t (b :: l)
    by_cases h : t.isPrefixOf (b :: l) = true
    · have e : Lib.index (b :: l) t = 0 := by rw [Lib.index, if_pos h]
      rw [e]
      simp only [List.map_cons] at hp
      simp only [List.map_cons, indexOf, hp, h, cond_true]
      simp
    · have e : Lib.index (b :: l) t = if Lib.index l t == -1 then -1 else Lib.index l t + 1 := by rw [Lib.index, if_neg h]
      have h' : t.isPrefixOf (b :: l) = false := Bool.eq_false_iff.mpr h
      rw [e]
      simp only [List.map_cons] at hp
      simp only [List.map_cons, indexOf, hp, h', cond_false]
      rw [ih]
      have hge := Lib.index_ge l t
      by_cases h1 : Lib.index l t = -1
      · simp [h1]
      · have h2 : ¬ (Lib.index l t + 1 = -1) := by omega
        simp only [h1, if_false, h2, beq_iff_eq]
        have : (Nat.succ i : Nat) = i + 1 := rfl
        omega

section
variable {P : Program} {C : GCfg}

theorem callFunc_enter {f : FuncId} {fn : Func} (hf : P.funcs[f]? = some fn) (hn : (fn.name == "runtime.NumGoroutine") = false) (hb : fn.body.isNone = false) (args : Array Value) (w : World) : (callFunc f args).run P w = .ok (.enter f args) w := by
  unfold callFunc
  have hp : (program).run P w = .ok P w := rfl
  simp only [Sem.run_bind, hp, Result.andThen_ok, hf, hn, hb, Bool.false_eq_true, if_false, Sem.run_pure]

/-- A rule for the function f. -/
def ExtFor (P : Program) (C : GCfg) (f : FuncId) (x : Ext) : Prop :=
  ∀ (args : Array Value) (gargs : List GVal) (base : Nat) (W0 : World) (Γ : Gam) (gh : GHeap) (w : World) (r : GVal × GHeap), CfgOK P C Γ → args.size = gargs.length → (∀ i (hi : i < gargs.length), VRel Γ (args.getD i undef) gargs[i]) → WRel base W0 Γ gh w →
    x gargs gh = some r → EOk P base W0 Γ w (callFunc f args) r

theorem args_two {Γ : Gam} {args : Array Value} {a b : GVal} (hs : args.size = [a, b].length) (hr : ∀ i (hi : i < [a, b].length), VRel Γ (args.getD i undef) [a, b][i]) : ∃ x y, args = #[x, y] ∧ VRel Γ x a ∧ VRel Γ y b := by
  obtain ⟨l⟩ := args
  match l, hs with
  | [x, y], _ => exact ⟨x, y, rfl, by simpa using hr 0 (by simp), by simpa using hr 1 (by simp)⟩

/-- The cell of a package variable that holds the unknown value i. -/
theorem glob_any {Γ : Gam} {base : Nat} {W0 : World} {gh : GHeap} {w : World} (hC : CfgOK P C Γ) (hW : WRel base W0 Γ gh w) {g i : Nat} (hg : C.glob g = some (.vptr (.any i) 0)) : ∃ x, w.cell? ⟨g, 0, none⟩ = some x ∧ C.unk i x := by
  have h := hC.1 g _ hg
  generalize hv : Value.pointer (some (⟨g, 0, none⟩ : Addr)) = v at h
  cases h with
  | vptr r o off el f hi h1 h =>
    simp only [Value.pointer.injEq, Option.some.injEq, Addr.mk.injEq] at hv
    obtain ⟨rfl, h0, _⟩ := hv
    have ho : o = 0 := by omega
    subst ho
    have hc := hi 0 (by simp [GVal.cells])
    have hr := h 0 (by simp [GVal.cells])
    simp only [GVal.cells, List.getElem_cons_zero] at hr
    generalize hf : f 0 = u at hr
    cases hr with
    | any _ _ hu _ _ _ => exact ⟨u, by rw [← hf]; exact hW.immc _ _ _ hc, hC.2.2 i _ hu⟩

theorem extIndex_ok {f g i : Nat} {fn : Func} (hf : P.funcs[f]? = some fn) (hn : (fn.name == "runtime.NumGoroutine") = false) (hb : fn.body.isNone = false) (hg : C.glob g = some (.vptr (.any i) 0)) (hu : ∀ x, C.unk i x → ∃ m, x = .int .i64 m)
    (hx : ∀ (s sub : ByteArray) (m : Int) (w : World), s.size < 4294967281 → w.cell? ⟨g, 0, none⟩ = some (.int .i64 m) → Calls P f #[.string s, .string sub] w fun e w' => e = .returned (.int .i64 (Lib.index s.data.toList sub.data.toList)) ∧ w' = w) : ExtFor P C f extIndex := by
  intro args gargs base W0 Γ gh w r hC hs hr hW hx'
  unfold extIndex at hx'
  split at hx'
  · rename_i s t
    obtain ⟨x, y, rfl, hx1, hy1⟩ := args_two hs hr
    cases hx1 with | str bs _ hbs =>
    cases hy1 with | str bt _ hbt =>
    cases hlt : Nat.blt s.length 4294967281 with
    | false => rw [hlt] at hx'; cases hx'
    | true =>
      rw [hlt] at hx'
      simp only [cond_true, Option.some.injEq] at hx'; subst hx'
      have hsz : bs.size < 4294967281 := by
        have h1 : s.length = bs.size := by rw [← hbs]; exact bts_length bs
        rw [← h1]; exact Nat.le_of_ble_eq_true hlt
      obtain ⟨v, hc, hv⟩ := glob_any hC hW hg
      obtain ⟨m, rfl⟩ := hu v hv
      refine ⟨_, w, callFunc_enter hf hn hb _ w, ?_⟩
      refine Calls.mono (hx bs bt m w hsz hc) fun e w' he => ?_
      obtain ⟨rfl, rfl⟩ := he
      refine ⟨_, rfl, Γ, Gam.le_refl _, ?_, hW⟩
      subst hbs; subst hbt
      have e1 := indexOf_eq bt.data.toList bs.data.toList 0
      rw [e1]
      have e2 : (if Lib.index bs.data.toList bt.data.toList = -1 then -1 else Lib.index bs.data.toList bt.data.toList + ((0 : Nat) : Int)) = Lib.index bs.data.toList bt.data.toList := by
        split
        · rename_i h; exact h.symm
        · simp
      rw [e2]
      exact .int _ _
  · cases hx'
end
end Go.Gh

/-
  THE GHOST MACHINE: the real memory grows; what lay there lies there.
  No claim is proved here.
-/
namespace Go.Gh
open Go.RowKit (Below)

section
variable {base : Nat} {W0 : World} {Γ : Gam} {gh : GHeap} {w w' : World}

theorem heap_lt {w : World} {r : Nat} {o : Obj} (h : w.heap[r]? = some o) : r < w.heap.size := by
  rcases Nat.lt_or_ge r w.heap.size with h' | h'
  · exact h'
  · rw [Array.getElem?_eq_none h'] at h; cases h

theorem grow_at (hb : Below w.heap.size w w') {r : Nat} {o : Obj} (h : w.heap[r]? = some o) : w'.heap[r]? = some o := by
  rw [hb.block r (heap_lt h)]; exact h

theorem RowAt.grow (hb : Below w.heap.size w w') {r : Nat} {c : Array Value} (h : RowAt w r c) : RowAt w' r c := by
  obtain ⟨ty, fz, e⟩ := h.here
  have e' := grow_at hb e
  refine ⟨⟨ty, fz, e'⟩, fun j hj => ?_⟩
  have := h.free j hj
  unfold World.frozen? at this ⊢
  simp only at this ⊢
  rw [hb.block r (heap_lt e)]; exact this

theorem BRel.grow (hb : Below w.heap.size w w') {k : Nat} {b : GBlock} (h : BRel base Γ w k b) : BRel base Γ w' k b := by
  cases b with
  | cells vals lo g =>
    obtain ⟨q, o, n, c, hl, hbb, hr, hs, hn, h1, hv, hi⟩ := h.ex
    exact ⟨q, o, n, c, hl, hbb, hr.grow hb, hs, hn, h1, hv, hi⟩
  | tip a =>
    cases a with
    | false => trivial
    | true =>
      obtain ⟨q, o, used, cap, sz, c, hl, hbb, hr, hs, hi⟩ := h.ex
      exact ⟨q, o, used, cap, sz, c, hl, hbb, hr.grow hb, hs, hi⟩
  | map es =>
    obtain ⟨q, o, n, es', clock, hl, hbb, hr, he⟩ := h.ex
    exact ⟨q, o, n, es', clock, hl, hbb, grow_at hb hr, he⟩
  | dead => trivial

theorem WRel.grow (h : WRel base W0 Γ gh w) (hb : Below w.heap.size w w') : WRel base W0 Γ gh w' := by
  refine ⟨?_, Nat.le_trans h.big hb.size, fun r o v e => ?_, h.frL, h.frT, fun k b hk => ⟨(h.blk k b hk).1, (h.blk k b hk).2.grow hb⟩, h.inj⟩
  · exact ⟨hb.os.trans h.below.os, hb.tape.trans h.below.tape, hb.output.trans h.below.output, Nat.le_trans h.below.size hb.size, fun k hk => by rw [hb.block k (Nat.lt_of_lt_of_le hk h.big)]; exact h.below.block k hk⟩
  · have := h.immc r o v e
    have hlt := imm_lt h e
    unfold World.cell? at this ⊢
    simp only at this ⊢
    rw [hb.block r hlt]; exact this
end

theorem pick_list {α : Type} [Inhabited α] (n : Nat) (p : Nat → α → Prop) (h : ∀ j, j < n → ∃ x, p j x) : ∃ zs : List α, zs.length = n ∧ ∀ j (hj : j < zs.length), p j zs[j] := by
  induction n with
  | zero => exact ⟨[], rfl, fun j hj => by simp at hj⟩
  | succ n ih =>
    obtain ⟨zs, hl, hz⟩ := ih fun j hj => h j (by omega)
    obtain ⟨x, hx⟩ := h n (by omega)
    refine ⟨zs ++ [x], by simp [hl], fun j hj => ?_⟩
    simp only [List.length_append, List.length_cons, List.length_nil] at hj
    rcases Nat.lt_or_ge j zs.length with h1 | h1
    · rw [List.getElem_append_left h1]; exact hz j h1
    · have : j = n := by omega
      subst this
      rw [List.getElem_append_right h1]
      simpa [hl] using hx

end Go.Gh

/-
  THE GHOST MACHINE: a closed call, reckoned once, is a rule of its own; tables of ghosts.
  No claim is proved here.
-/
namespace Go.Gh
open Go.RowKit (Below)

def FTree.All (p : Nat → GFunc → Prop) : FTree → Prop
  | .leaf => True
  | .node k f l r => p k f ∧ l.All p ∧ r.All p

theorem FTree.find_all {p : Nat → GFunc → Prop} : ∀ (t : FTree) (n : Nat) (g : GFunc), t.All p → t.find n = some g → p n g := by
  intro t
  induction t with
  | leaf => intro n g _ h; simp [FTree.find] at h
  | node k f l r ihl ihr =>
    intro n g ha h
    obtain ⟨h1, h2, h3⟩ := ha
    simp only [FTree.find] at h
    cases hb : Nat.beq n k with
    | true =>
      rw [hb] at h
      simp only [cond_true, Option.some.injEq] at h
      have := Nat.eq_of_beq_eq_true hb
      subst this; subst h; exact h1
    | false =>
      rw [hb] at h
      simp only [cond_false] at h
      cases hl : Nat.blt n k with
      | true => rw [hl] at h; exact ihl _ _ h2 h
      | false => rw [hl] at h; exact ihr _ _ h3 h

/-- A value that holds no memory. -/
def Plain (v : GVal) : Prop := ∀ (Γ Γ' : Gam) (x : Value), Γ'.unk = Γ.unk → VRel Γ x v → VRel Γ' x v
theorem plain_bool (b : Bool) : Plain (.bool b) := fun _ _ _ _ h => by cases h; exact .bool _
theorem plain_int (k : IntKind) (m : Int) : Plain (.int k m) := fun _ _ _ _ h => by cases h; exact .int _ _
theorem plain_str (l : List Nat) : Plain (.str l) := fun _ _ _ _ h => by cases h with | str s _ h => exact .str _ _ h
theorem plain_any (i : Nat) : Plain (.any i) := fun _ _ _ e h => by cases h with | any _ _ h h1 h2 h3 => exact .any _ _ (by rw [e]; exact h) h1 h2 h3
theorem plain_tuple (l : List GVal) (hl : ∀ v ∈ l, Plain v) : Plain (.tuple l) := fun Γ Γ' _ e h => by
  cases h with | tuple cs _ he h => exact .tuple _ _ he fun i hi => hl _ (List.getElem_mem _) Γ Γ' _ e (h i hi)

/-- The memory of which a call that knows none is told: what nobody changes, what is unknown. -/
def Gam.bare (Γ : Gam) : Gam := ⟨fun _ => Option.none, fun _ => Option.none, Γ.imm, Γ.unk⟩

theorem empty_get (k : Nat) : GHeap.empty.get k = Option.none := by
  have hn : ∀ p, Tr.get p (Tr.nil : Tr GBlock) = Option.none := fun p => by
    induction p with
    | e => rfl
    | l p ih => exact ih
    | r p ih => exact ih
  simp [GHeap.get, GHeap.empty, hn]

theorem wrel_bare {base : Nat} {W0 : World} {Γ : Gam} {gh : GHeap} {w : World} (h : WRel base W0 Γ gh w) : WRel w.heap.size w Γ.bare .empty w := by
  refine ⟨⟨rfl, rfl, rfl, Nat.le_refl _, fun _ _ => rfl⟩, Nat.le_refl _, fun r o v e => h.immc r o v e, fun _ _ => rfl, fun _ _ => rfl, fun k b e => ?_, fun k k' b b' r _ e => ?_⟩
  · exact absurd e (by rw [empty_get]; simp)
  · exact absurd e (by rw [empty_get]; simp)

/-- The globals of the turning lead to what nobody changes. -/
def GlobBare (P : Program) (C : GCfg) : Prop := ∀ (Γ : Gam), CfgOK P C Γ → CfgOK P C Γ.bare

theorem globBare_of {P : Program} {C : GCfg} (h : ∀ g v, C.glob g = some v → ∃ el, v = .vptr el 0 ∧ ∀ u ∈ el.cells, Plain u) : GlobBare P C := by
  intro Γ hC
  refine ⟨fun g v e => ?_, hC.2.1, hC.2.2⟩
  have hr := hC.1 g v e
  obtain ⟨el, rfl, hp⟩ := h g v e
  generalize hx : Value.pointer (some (⟨g, 0, Option.none⟩ : Addr)) = x at hr
  cases hr with
  | vptr r o off el f hi h1 h => exact .vptr r o _ el f hi h1 fun j hj => hp _ (List.getElem_mem _) Γ _ _ rfl (h j hj)

/-- A call that is told of no memory and answers a plain value: what it answers anywhere. -/
theorem closed_rule {P : Program} {C : GCfg} {call : CallF} (hc : CallOK P C call) (hb : GlobBare P C) {f : FuncId} {x : Ext}
    (hx : ∀ gargs gh r, x gargs gh = some r → r.2 = gh ∧ Plain r.1 ∧ (∀ v ∈ gargs, Plain v) ∧ ∃ h', call f gargs .empty = some (r.1, h')) : ExtFor P C f x := by
  intro args gargs base W0 Γ gh w r hC hs hr hW h
  obtain ⟨h1, hp, hpa, h', h2⟩ := hx _ _ _ h
  obtain ⟨n, w1, hrun, hn⟩ := hc f args gargs w.heap.size w Γ.bare .empty w (r.1, h') (hb _ hC) hs (fun i hi => hpa _ (List.getElem_mem _) Γ _ _ (by rfl) (hr i hi)) (wrel_bare hW) h2
  have conv : ∀ v w', Ans w.heap.size w Γ.bare (r.1, h') v w' → Ans base W0 Γ r v w' := by
    rintro v w' ⟨Γ', hle, hv, hW'⟩
    refine ⟨Γ, Gam.le_refl _, hp Γ' Γ v (by rw [hle.unk]; rfl) hv, ?_⟩
    rw [h1]
    exact hW.grow hW'.below
  refine ⟨n, w1, hrun, ?_⟩
  cases n with
  | value v => exact conv _ _ hn
  | skip => exact conv _ _ hn
  | enter f args => exact Calls.mono hn fun e w'' ⟨v, he, hv⟩ => ⟨v, he, conv _ _ hv⟩
  | _ => exact hn
end Go.Gh

/-
  THE GHOST MACHINE, THE SWIFT FORM: a table of functions, each one Lean term.
  No claim is proved here.
-/
namespace Go.Gh
noncomputable section
inductive TTree where
  | leaf
  | node (k : Nat) (T : TFun) (l r : TTree)
def TTree.find : TTree → Nat → Option TFun
  | .leaf, _ => none
  | .node k f l r, n => bif Nat.beq n k then some f else bif Nat.blt n k then l.find n else r.find n
def TTree.All (p : Nat → TFun → Prop) : TTree → Prop
  | .leaf => True
  | .node k f l r => p k f ∧ l.All p ∧ r.All p
def tDo (x : Option TFun) (E : GEnv) (call : CallF) (m : Nat) (args : List GVal) (h : GHeap) : Option (GVal × GHeap) := @Option.rec TFun (fun _ => Option (GVal × GHeap)) none (fun T => T E call m args h) x
/-- The calls: by the table, each one with less fuel. -/
def tCall (E : GEnv) (tbl : TTree) (n : Nat) : CallF := @Nat.rec (fun _ => CallF) (fun _ _ _ => none) (fun m ih f args h => tDo (tbl.find f) E ih m args h) n
/-- A rule as a function of the table. -/
def ruleT (x : Ext) : TFun := fun _ _ _ args h => x args h
end

theorem TTree.find_all {p : Nat → TFun → Prop} : ∀ (t : TTree) (n : Nat) (g : TFun), t.All p → t.find n = some g → p n g := by
  intro t
  induction t with
  | leaf => intro n g _ h; simp [TTree.find] at h
  | node k f l r ihl ihr =>
    intro n g ha h
    obtain ⟨h1, h2, h3⟩ := ha
    simp only [TTree.find] at h
    cases hb : Nat.beq n k with
    | true =>
      rw [hb] at h
      simp only [cond_true, Option.some.injEq] at h
      have := Nat.eq_of_beq_eq_true hb
      subst this; subst h; exact h1
    | false =>
      rw [hb] at h
      simp only [cond_false] at h
      cases hl : Nat.blt n k with
      | true => rw [hl] at h; exact ihl _ _ h2 h
      | false => rw [hl] at h; exact ihr _ _ h3 h

/-- A function of the table is the swift form of the program's, or a rule that holds of it. -/
def TOK (P : Program) (C : GCfg) (f : Nat) (T : TFun) : Prop :=
  (∃ x, T = ruleT x ∧ ExtFor P C f x) ∨ ∃ s fn hp fz, T = sRun s ∧ P.funcs[f]? = some fn ∧ gFuncOf P { C with heap := hp, fz := fz } fn = some s.erase ∧ (fn.name == "runtime.NumGoroutine") = false

theorem tCall_sound {P : Program} {C : GCfg} {E : GEnv} {tbl : TTree} (ht : tbl.All (TOK P C)) (hM : MethOK P C E) (hm : P.follows .mixedOrders = true) : ∀ n, CallOK P C (tCall E tbl n) := by
  intro n
  induction n with
  | zero => intro f args gargs base W0 Γ gh w r _ _ _ _ h; cases h
  | succ n ih =>
    intro f args gargs base W0 Γ gh w r hC hsz hrel hW h
    have h' : tDo (tbl.find f) E (tCall E tbl n) n gargs gh = some r := h
    cases hf : tbl.find f with
    | none => rw [hf] at h'; cases h'
    | some T =>
      rw [hf] at h'
      have h2 : T E (tCall E tbl n) n gargs gh = some r := h'
      rcases TTree.find_all tbl f T ht hf with ⟨x, rfl, hx⟩ | ⟨s, fn, hp, fz, rfl, hfn, hgf, hname⟩
      · exact hx args gargs base W0 Γ gh w r hC hsz hrel hW h2
      · exact runF_sound hM ih hm (fun _ call hT => draws E call hT) hfn hgf hname args gargs base W0 Γ gh w r hC hsz hrel hW (sRun_ok h2)
end Go.Gh

/-
  THE GHOST MACHINE, THE SWIFT FORM: how a term is reckoned at values that are known in part.
  No claim is proved here.
-/
namespace Go.Gh
section
variable {β α : Type}
theorem bnd_val (v : α) (k : α → Option β) : bnd (some v) k = k v := rfl
theorem bnd2_val (v : GVal) (h : GHeap) (k : GVal → GHeap → Option β) : bnd2 (some (v, h)) k = k v h := rfl
theorem uncons_cons (v : GVal) (vs : List GVal) (k : GVal → List GVal → Option β) : uncons (v :: vs) k = k v vs := rfl
theorem unnil_nil (r : Option β) : unnil [] r = r := rfl
theorem sEnd_ret (v : GVal) (h : GHeap) : sEnd (some (.ret v h)) = some (v, h) := rfl
theorem sJoin_normal (vs : List GVal) (h : GHeap) (k : List GVal → GHeap → SRes) : sJoin (some (.normal vs h)) k = k vs h := rfl
theorem sJoin_ret (v : GVal) (h : GHeap) (k : List GVal → GHeap → SRes) : sJoin (some (.ret v h)) k = some (.ret v h) := rfl
theorem sIf_true (A B : SRes) : sIf (.bool true) A B = A := rfl
theorem sIf_false (A B : SRes) : sIf (.bool false) A B = B := rfl
theorem gIf_tt (A B : SRes) : gIf (.bool true) true A B = A := rfl
theorem gIf_tf (A B : SRes) : gIf (.bool true) false A B = B := rfl
theorem gIf_ft (A B : SRes) : gIf (.bool false) true A B = B := rfl
theorem gIf_ff (A B : SRes) : gIf (.bool false) false A B = A := rfl
theorem pickB_true (a b : GVal) : pickB (.bool true) a b = some a := rfl
theorem pickB_false (a b : GVal) : pickB (.bool false) a b = some b := rfl
theorem nilChk_ptr (k o : Nat) : nilChk (.ptr k o) = some (.ptr k o) := rfl
theorem fieldA_ptr (f k o : Nat) : fieldA f (.ptr k o) = some (.ptr k (o + f)) := rfl
theorem fieldA_vptr (f : Nat) (v : GVal) (o : Nat) : fieldA f (.vptr v o) = some (.vptr v (o + f)) := rfl
theorem eql_int (k : IntKind) (a b : Int) (hk : kindEq k k = true) : gBin .eql (.int k a) (.int k b) = some (.bool (ieq a b)) := by
  show (bif kindEq k k then some (GVal.bool (ieq a b)) else none) = _
  rw [hk]; rfl
theorem eql_i64 (a b : Int) : gBin .eql (.int .i64 a) (.int .i64 b) = some (.bool (ieq a b)) := rfl
theorem eql_str (a b : List Nat) : gBin .eql (.str a) (.str b) = some (.bool (natsSame a b)) := rfl
theorem lss_nat (i j : Nat) : gBin .lss (.int .i64 (.ofNat i)) (.int .i64 (.ofNat j)) = some (.bool (Nat.blt i j)) := by
  have e : ilt (.ofNat i) (.ofNat j) = Nat.blt i j := by
    show (!Nat.ble j i) = Nat.ble (i + 1) j
    rw [Bool.eq_iff_iff]
    simp only [Bool.not_eq_true', Nat.ble_eq]
    rw [← Bool.not_eq_true, Nat.ble_eq]; omega
  show some (GVal.bool (ilt (.ofNat i) (.ofNat j))) = _
  rw [e]
theorem len_vsl (els : List GVal) (t : Tok) : lenV false (.vsl els t) = some (.int .i64 (.ofNat els.length)) := rfl
theorem load_ptr {h : GHeap} {b o : Nat} {l : List GVal} {lo : Nat} {gr : Bool} (hg : h.get b = some (.cells l lo gr)) : loadV h 1 false (.ptr b o) = nth l o := by
  simp only [loadV, hg, cellsOf, partOf, gPart, cond_false]
theorem load_vptr (h : GHeap) (v : GVal) (o : Nat) : loadV h 1 false (.vptr v o) = nth v.cells o := rfl
theorem ixS_vsl {esz : Nat} {els : List GVal} {t : Tok} {i : Nat} {v : GVal} (hi : Nat.blt i els.length = true) (hv : nth els i = some v) (hs : Nat.beq v.cells.length esz = true) : ixS esz (.vsl els t) (.int .i64 (.ofNat i)) = some (.vptr v 0) := by
  have e : idx? (.int .i64 (.ofNat i)) els.length = some i := by
    show (bif Nat.blt i els.length then some i else none) = _
    rw [hi]; rfl
  show elAddr esz els (idx? (.int .i64 (.ofNat i)) els.length) = _
  rw [e]
  simp only [elAddr, hv, hs, cond_true]
end

/-- A rule that a function of the table bears out by itself, whatever it may call. -/
theorem leaf_rule {P : Program} {C : GCfg} {E : GEnv} {f : Nat} {T : TFun} {x : Ext} (ht : TOK P C f T) (hM : MethOK P C E) (hm : P.follows .mixedOrders = true)
    (hx : ∀ args h r, x args h = some r → T E (fun _ _ _ => none) 0 args h = some r) : ExtFor P C f x := by
  intro args gargs base W0 Γ gh w r hC hsz hrel hW h
  have h2 := hx _ _ _ h
  rcases ht with ⟨y, rfl, hy⟩ | ⟨s, fn, hp, fz, rfl, hfn, hgf, hname⟩
  · exact hy args gargs base W0 Γ gh w r hC hsz hrel hW h2
  · exact runF_sound hM (fun f args gargs base W0 Γ gh w r _ _ _ _ h => by cases h) hm (fun _ call hT => draws E call hT) hfn hgf hname args gargs base W0 Γ gh w r hC hsz hrel hW (sRun_ok h2)
end Go.Gh

/-
  THE GHOST MACHINE: functions without a body whose answer the model gives.
  No claim is proved here.
-/
namespace Go.Gh

theorem indexByte_eq (c : UInt8) : ∀ (l : List UInt8) (i : Nat), indexByte c.toNat (l.map (·.toNat)) i = if Lib.indexByte l c = -1 then -1 else Lib.indexByte l c + i := by
  intro l
  induction l with
  | nil => intro i; rfl
  | cons b l ih =>
    intro i
    have hge := Lib.indexByte_ge l c
    simp only [List.map_cons, indexByte]
    rw [beq_bool]
    by_cases h : b = c
    · have e : Lib.indexByte (b :: l) c = 0 := by rw [Lib.indexByte, if_pos (by simpa using h)]
      rw [e]; subst h; simp
    · have e : Lib.indexByte (b :: l) c = if Lib.indexByte l c == -1 then -1 else Lib.indexByte l c + 1 := by rw [Lib.indexByte, if_neg (by simpa using h)]
      have hn : ¬ b.toNat = c.toNat := fun e => h (UInt8.toNat_inj.mp e)
      rw [e]
      simp only [hn, decide_false, cond_false]
      rw [ih]
      by_cases h1 : Lib.indexByte l c = -1
      · simp [h1]
      · have h2 : ¬ (Lib.indexByte l c + 1 = -1) := by omega
        simp only [h1, if_false, h2, beq_iff_eq]
        have : (Nat.succ i : Nat) = i + 1 := rfl
        omega

section
variable {P : Program} {C : GCfg}

theorem extIndexByte_ok {f : Nat} {fn : Func} (hf : P.funcs[f]? = some fn) (hn : (fn.name == "runtime.NumGoroutine") = false) (hb : fn.body.isNone = true) (hx : Extern.findNext fn = none) (he : Extern.find fn = some Extern.BytealgIndexByte.indexByte) : ExtFor P C f extIndexByte := by
  intro args gargs base W0 Γ gh w r hC hs hr hW hx'
  unfold extIndexByte at hx'
  split at hx'
  · rename_i s b
    obtain ⟨x, y, rfl, hx1, hy1⟩ := args_two hs hr
    cases hx1 with | str bs _ hbs =>
    cases hy1 with | int k m =>
    cases hlt : Nat.blt b 256 with
    | false => rw [hlt] at hx'; cases hx'
    | true =>
      rw [hlt] at hx'
      simp only [cond_true, Option.some.injEq] at hx'; subst hx'
      have hb256 : b < 256 := Nat.le_of_ble_eq_true hlt
      refine ⟨.value (.int .i64 (Lib.indexByte bs.data.toList (Int.ofNat b).toNat.toUInt8)), w, ?_, Γ, Gam.le_refl _, ?_, hW⟩
      · rw [run_callFunc_extern hf hn hb hx he, Lib.run_indexByteString]
        rfl
      · subst hbs
        have e0 : ((Int.ofNat b).toNat.toUInt8).toNat = b := by
          show (Nat.toUInt8 b).toNat = b
          simp; omega
        have e1 := indexByte_eq ((Int.ofNat b).toNat.toUInt8) bs.data.toList 0
        rw [e0] at e1
        rw [e1]
        have e2 : (if Lib.indexByte bs.data.toList (Int.ofNat b).toNat.toUInt8 = -1 then -1 else Lib.indexByte bs.data.toList (Int.ofNat b).toNat.toUInt8 + ((0 : Nat) : Int)) = Lib.indexByte bs.data.toList (Int.ofNat b).toNat.toUInt8 := by
          split
          · rename_i h; exact h.symm
          · simp
        rw [e2]
        exact .int _ _
  · cases hx'
end
end Go.Gh

/-
  THE GHOST MACHINE: a call from outside: what the ghost answers, the program answers.
  No claim is proved here.
-/
namespace Go.Gh
open Go.RowKit (Below)

/-- A type whose values are ints. -/
def intOk (P : Program) (u : TypeId) : Bool := match P.info? u, P.underlying u with | some i, some (.int _) => i.comparable | _, _ => false
theorem intOk_spec {P : Program} {u : TypeId} (h : intOk P u = true) : ∃ i k, P.info? u = some i ∧ i.comparable = true ∧ P.underlying u = some (.int k) := by
  unfold intOk at h
  split at h
  · rename_i i k hi hk; exact ⟨i, k, hi, h, hk⟩
  · cases h
theorem ints_ok {P : Program} {l : List TypeId} (h : l.all (intOk P) = true) : ∀ u ∈ l, ∃ i k, P.info? u = some i ∧ i.comparable = true ∧ P.underlying u = some (.int k) :=
  fun u hu => intOk_spec (List.all_eq_true.mp h u hu)

/-- Nothing is known of the memory but the cells that nobody changes. -/
theorem wrel_imm (w : World) (Γ : Gam) (hl : ∀ k, Γ.loc k = none) (ht : ∀ k, Γ.tip k = none) (hi : ∀ r o v, Γ.imm r o = some v → w.cell? ⟨r, o, none⟩ = some v) : WRel w.heap.size w Γ .empty w := by
  refine ⟨⟨rfl, rfl, rfl, Nat.le_refl _, fun _ _ => rfl⟩, Nat.le_refl _, hi, fun k _ => hl k, fun k _ => ht k, fun k b e => ?_, fun k k' b b' r _ e => ?_⟩
  · exact absurd e (by rw [empty_get]; simp)
  · exact absurd e (by rw [empty_get]; simp)

theorem isTrue_spec {r : Option (GVal × GHeap)} (h : isTrue r = true) : ∃ h', r = some (.bool true, h') := by
  unfold isTrue at h
  split at h
  · exact ⟨_, rfl⟩
  · cases h

/-- A law that the ghost finds true is true. -/
theorem law_calls {P : Program} {C : GCfg} {call : CallF} (hc : CallOK P C call) {f : FuncId} {fn : Func} (hf : P.funcs[f]? = some fn) (hn : (fn.name == "runtime.NumGoroutine") = false) (hb : fn.body.isNone = false)
    (w : World) (Γ : Gam) (hC : CfgOK P C Γ) (hl : ∀ k, Γ.loc k = none) (ht : ∀ k, Γ.tip k = none) (hi : ∀ r o v, Γ.imm r o = some v → w.cell? ⟨r, o, none⟩ = some v)
    (args : Array Value) (gargs : List GVal) (hs : args.size = gargs.length) (hr : ∀ i (hi : i < gargs.length), VRel Γ (args.getD i undef) gargs[i]) (h : isTrue (call f gargs .empty) = true) :
    Calls P f args w fun e w' => e = .returned (.bool true) ∧ Below w.heap.size w w' := by
  obtain ⟨h', he⟩ := isTrue_spec h
  obtain ⟨n, w1, hrun, hn'⟩ := hc f args gargs w.heap.size w Γ .empty w _ hC hs hr (wrel_imm w Γ hl ht hi) he
  rw [callFunc_enter hf hn hb args w] at hrun
  cases hrun
  refine Calls.mono hn' ?_
  rintro e w'' ⟨v, rfl, Γ', hle, hv, hW⟩
  cases hv
  exact ⟨rfl, hW.below⟩

theorem vptr_any {Γ : Gam} {g i : Nat} {x : Value} (hi : Γ.imm g 0 = some x) (hu : Γ.unk i = some x) (h1 : x.cells = #[x]) (h2 : x.oneCell' = true) (h3 : ∀ b, x ≠ .bool b) : VRel Γ (.pointer (some ⟨g, 0, none⟩)) (.vptr (.any i) 0) :=
  .vptr g 0 0 (.any i) (fun _ => x) (fun j hj => by have : j = 0 := by simpa [GVal.cells] using hj
                                                    subst this; exact hi) (fun v hv => by simp [GVal.cells] at hv; subst hv; rfl)
    (fun j hj => by
      have : j = 0 := by simpa [GVal.cells] using hj
      subst this; exact .any i x hu h1 h2 h3)
end Go.Gh

/-
  THE GHOST MACHINE: rules for texts that begin with a known word: the word's answer is reckoned once, whatever follows.
  No claim is proved here.
-/
namespace Go.Gh
noncomputable section
def fstOf (r : Option (GVal × GHeap)) : Option GVal := match r with | some p => some p.1 | none => none
def dictFind (s : List Nat) (d : List (List Nat × GVal)) : Option GVal := @List.rec (List Nat × GVal) (fun _ => Option GVal) none (fun p _ ih => bif prefixOf p.1 s then some p.2 else ih) d
def dictSame (s : List Nat) (d : List (List Nat × GVal)) : Option GVal := @List.rec (List Nat × GVal) (fun _ => Option GVal) none (fun p _ ih => bif natsSame p.1 s then some p.2 else ih) d
def ansX (x : Option GVal) (h : GHeap) : Option (GVal × GHeap) := match x with | some v => some (v, h) | none => none
/-- What begins with a word of d, and is followed by whatever; else what is a word of e alone. -/
def dictX (d e : List (List Nat × GVal)) : Ext := fun args h => match args with | [.str s] => (match dictFind s d with | some v => some (v, h) | none => ansX (dictSame s e) h) | _ => none

def atomB (v : GVal) : Bool := match v with | .bool _ => true | .int _ _ => true | .str _ => true | .any _ => true | _ => false
def flatB (v : GVal) : Bool := match v with | .agg l => l.all atomB | v => atomB v
def plainB (v : GVal) : Bool := match v with | .tuple l => l.all flatB | v => flatB v
end

theorem atomB_plain {v : GVal} (h : atomB v = true) : Plain v := by
  cases v <;> simp only [atomB, Bool.false_eq_true] at h
  · exact plain_bool _
  · exact plain_int _ _
  · exact plain_str _
  · exact plain_any _
theorem plain_agg (l : List GVal) (hl : ∀ v ∈ l, Plain v) : Plain (.agg l) := fun Γ Γ' _ e h => by
  cases h with | agg cs _ he h1 h => exact .agg _ _ he h1 fun i hi => hl _ (List.getElem_mem _) Γ Γ' _ e (h i hi)
theorem flatB_plain {v : GVal} (h : flatB v = true) : Plain v := by
  unfold flatB at h
  split at h
  · exact plain_agg _ fun u hu => atomB_plain (List.all_eq_true.mp h u hu)
  · exact atomB_plain h
theorem plainB_plain {v : GVal} (h : plainB v = true) : Plain v := by
  unfold plainB at h
  split at h
  · exact plain_tuple _ fun u hu => flatB_plain (List.all_eq_true.mp h u hu)
  · exact flatB_plain h

theorem prefixOf_split : ∀ {a s : List Nat}, prefixOf a s = true → ∃ rest, s = a ++ rest := by
  intro a
  induction a with
  | nil => intro s _; exact ⟨s, rfl⟩
  | cons x a ih =>
    intro s h
    cases s with
    | nil => cases h
    | cons y s =>
      simp only [prefixOf_cons, Bool.and_eq_true] at h
      obtain ⟨rest, rfl⟩ := ih h.2
      have := Nat.eq_of_beq_eq_true h.1
      subst this
      exact ⟨rest, rfl⟩
theorem natsSame_eq : ∀ {a s : List Nat}, natsSame a s = true → a = s := by
  intro a
  induction a with
  | nil => intro s h; cases s with | nil => rfl | cons y s => simp [natsSame_nil_cons] at h
  | cons x a ih =>
    intro s h
    cases s with
    | nil => simp [natsSame_cons_nil] at h
    | cons y s =>
      simp only [natsSame_cons, Bool.and_eq_true] at h
      rw [Nat.eq_of_beq_eq_true h.1, ih h.2]

theorem dictFind_some {s : List Nat} {v : GVal} : ∀ {d : List (List Nat × GVal)}, dictFind s d = some v → ∃ p ∈ d, v = p.2 ∧ ∃ rest, s = p.1 ++ rest := by
  intro d
  induction d with
  | nil => intro h; cases h
  | cons p d ih =>
    intro h
    have h' : (bif prefixOf p.1 s then some p.2 else dictFind s d) = some v := h
    cases hb : prefixOf p.1 s with
    | true => rw [hb] at h'; cases h'; exact ⟨p, List.mem_cons_self .., rfl, prefixOf_split hb⟩
    | false =>
      rw [hb] at h'
      obtain ⟨q, hq, h1⟩ := ih h'
      exact ⟨q, List.mem_cons_of_mem _ hq, h1⟩
theorem dictSame_some {s : List Nat} {v : GVal} : ∀ {d : List (List Nat × GVal)}, dictSame s d = some v → ∃ p ∈ d, v = p.2 ∧ s = p.1 := by
  intro d
  induction d with
  | nil => intro h; cases h
  | cons p d ih =>
    intro h
    have h' : (bif natsSame p.1 s then some p.2 else dictSame s d) = some v := h
    cases hb : natsSame p.1 s with
    | true => rw [hb] at h'; cases h'; exact ⟨p, List.mem_cons_self .., rfl, (natsSame_eq hb).symm⟩
    | false =>
      rw [hb] at h'
      obtain ⟨q, hq, h1⟩ := ih h'
      exact ⟨q, List.mem_cons_of_mem _ hq, h1⟩

theorem fstOf_some {r : Option (GVal × GHeap)} {v : GVal} (h : fstOf r = some v) : ∃ h', r = some (v, h') := by
  cases r with
  | none => cases h
  | some p => cases h; exact ⟨p.2, rfl⟩

/-- Every word's answer, reckoned, makes the rule. -/
theorem dictX_ok {P : Program} {C : GCfg} {call : CallF} (hc : CallOK P C call) (hb : GlobBare P C) {f : FuncId} {d e : List (List Nat × GVal)}
    (hpd : d.all (fun p => plainB p.2) = true) (hpe : e.all (fun p => plainB p.2) = true)
    (hd : ∀ p ∈ d, ∀ rest, fstOf (call f [.str (p.1 ++ rest)] .empty) = some p.2) (he : ∀ p ∈ e, fstOf (call f [.str p.1] .empty) = some p.2) : ExtFor P C f (dictX d e) := by
  refine closed_rule hc hb fun gargs gh r hx => ?_
  unfold dictX at hx
  split at hx
  · rename_i s
    split at hx
    · rename_i v hv
      cases hx
      obtain ⟨p, hp, rfl, rest, rfl⟩ := dictFind_some hv
      exact ⟨rfl, plainB_plain (List.all_eq_true.mp hpd p hp), fun u hu => by rw [List.mem_singleton.mp hu]; exact plain_str _, fstOf_some (hd p hp rest)⟩
    · unfold ansX at hx
      split at hx
      · rename_i v hv
        cases hx
        obtain ⟨p, hp, rfl, rfl⟩ := dictSame_some hv
        exact ⟨rfl, plainB_plain (List.all_eq_true.mp hpe p hp), fun u hu => by rw [List.mem_singleton.mp hu]; exact plain_str _, fstOf_some (he p hp)⟩
      · cases hx
  · cases hx

/-- A byte with which no blank and no remark begins. -/
def solid (c : Nat) : Bool := (Nat.ble 36 c && Nat.blt c 127) || Nat.beq c 33
def i64 (n : Nat) : GVal := .int .i64 (.ofNat n)
/-- How many blanks a text begins with: two at most, and no remark. -/
def skipX : Ext := fun args h =>
  match args with
  | [.str s] =>
    match s with
    | [] => some (i64 0, h)
    | c :: r =>
      bif Nat.beq c 32 then (match r with | [] => some (i64 1, h) | d :: t => bif solid d then some (i64 1, h) else bif Nat.beq d 32 then (match t with | [] => none | g :: _ => bif solid g then some (i64 2, h) else none) else none)
      else bif solid c then some (i64 0, h) else none
  | _ => none
theorem skipX_ok {P : Program} {C : GCfg} {call : CallF} (hc : CallOK P C call) (hb : GlobBare P C) {f : FuncId}
    (h0 : fstOf (call f [.str []] .empty) = some (i64 0)) (h1 : fstOf (call f [.str [32]] .empty) = some (i64 1))
    (hs : ∀ c, solid c = true → ∀ rest, fstOf (call f [.str (c :: rest)] .empty) = some (i64 0) ∧ fstOf (call f [.str (32 :: c :: rest)] .empty) = some (i64 1) ∧ fstOf (call f [.str (32 :: 32 :: c :: rest)] .empty) = some (i64 2)) : ExtFor P C f skipX := by
  refine closed_rule hc hb fun gargs gh r hx => ?_
  unfold skipX at hx
  split at hx
  · rename_i s
    have hp : ∀ n, Plain (i64 n) := fun n => plain_int _ _
    have ha : ∀ u ∈ [GVal.str s], Plain u := fun u hu => by rw [List.mem_singleton.mp hu]; exact plain_str _
    split at hx
    · cases hx; exact ⟨rfl, hp _, ha, fstOf_some h0⟩
    · rename_i c t
      cases hc32 : Nat.beq c 32 with
      | true =>
        rw [hc32] at hx
        have := Nat.eq_of_beq_eq_true hc32
        subst this
        simp only [cond_true] at hx
        split at hx
        · cases hx; exact ⟨rfl, hp _, ha, fstOf_some h1⟩
        · rename_i d t
          cases hd : solid d with
          | true => rw [hd] at hx; cases hx; exact ⟨rfl, hp _, ha, fstOf_some (hs d hd t).2.1⟩
          | false =>
            rw [hd] at hx
            cases hd32 : Nat.beq d 32 with
            | false => rw [hd32] at hx; cases hx
            | true =>
              rw [hd32] at hx
              have := Nat.eq_of_beq_eq_true hd32
              subst this
              simp only [cond_true, cond_false] at hx
              split at hx
              · cases hx
              · rename_i g u
                obtain ⟨hg, hx⟩ := cond_some hx
                cases hx; exact ⟨rfl, hp _, ha, fstOf_some (hs g hg u).2.2⟩
      | false =>
        rw [hc32] at hx
        obtain ⟨hd, hx⟩ := cond_some hx
        cases hx; exact ⟨rfl, hp _, ha, fstOf_some (hs c hd t).1⟩
  · cases hx
theorem solid_cases {c : Nat} (h : solid c = true) : c = 33 ∨ (36 ≤ c ∧ c < 127) := by
  simp only [solid, Bool.or_eq_true, Bool.and_eq_true] at h
  rcases h with ⟨h1, h2⟩ | h
  · exact .inr ⟨Nat.le_of_ble_eq_true h1, Nat.le_of_ble_eq_true h2⟩
  · exact .inl (Nat.eq_of_beq_eq_true h)
end Go.Gh

/-
  THE GHOST MACHINE: 'n & 65535 % m': a number that may be any becomes one of few.
  No claim is proved here.
-/
namespace Go.Gh

theorem and16 (n : Int) : ∃ m, m < 65536 ∧ gBin .and (.int .i64 n) (.int .i64 (.ofNat 65535)) = some (i64 m) := by
  refine ⟨(BitVec.ofInt 64 n &&& BitVec.ofInt 64 65535).toNat, ?_, ?_⟩
  · rw [BitVec.toNat_and]
    have : (BitVec.ofInt 64 65535).toNat = 65535 := by decide
    rw [this]
    have := @Nat.and_le_right (BitVec.ofInt 64 n).toNat 65535
    omega
  · show some (fAnd .i64 n (.ofNat 65535)) = _
    rw [fAnd_eq]
    have hlt : (BitVec.ofInt 64 n &&& BitVec.ofInt 64 65535).toNat < 65536 := by
      rw [BitVec.toNat_and]
      have : (BitVec.ofInt 64 65535).toNat = 65535 := by decide
      rw [this]
      have := @Nat.and_le_right (BitVec.ofInt 64 n).toNat 65535
      omega
    have e : bAnd .i64 n (.ofNat 65535) = .int .i64 (IntKind.wrap .i64 ((BitVec.ofInt 64 n &&& BitVec.ofInt 64 65535).toNat : Int)) := rfl
    rw [e]
    have hw : IntKind.wrap .i64 ((BitVec.ofInt 64 n &&& BitVec.ofInt 64 65535).toNat : Int) = ((BitVec.ofInt 64 n &&& BitVec.ofInt 64 65535).toNat : Int) := by
      generalize (BitVec.ofInt 64 n &&& BitVec.ofInt 64 65535).toNat = x at hlt
      simp only [IntKind.wrap, IntKind.signed, IntKind.bits]
      simp
      omega
    rw [hw]; rfl

theorem and16_nat {m : Nat} (h : m < 65536) : gBin .and (i64 m) (.int .i64 (.ofNat 65535)) = some (i64 m) := by
  have e : gBin .and (i64 m) (.int .i64 (.ofNat 65535)) = some (bif inKind .i64 (.ofNat m) && inKind .i64 (.ofNat 65535) then .int .i64 (.ofNat (Nat.land m 65535)) else bAnd .i64 (.ofNat m) (.ofNat 65535)) := rfl
  rw [e]
  have h1 : inKind .i64 (.ofNat m) = true := by
    show Nat.blt m 9223372036854775808 = true
    simp only [Nat.blt, Nat.ble_eq]; omega
  have h2 : inKind .i64 (.ofNat 65535) = true := rfl
  have h3 : Nat.land m 65535 = m := by
    show m &&& 65535 = m
    have : (65535 : Nat) = 2 ^ 16 - 1 := rfl
    rw [this, Nat.and_two_pow_sub_one_eq_mod, Nat.mod_eq_of_lt h]
  rw [h1, h2, h3]; rfl

theorem rem_nat {m k : Nat} (hk : 0 < k) : gBin .rem (i64 m) (.int .i64 (.ofNat k)) = some (i64 (m % k)) := by
  have e : gBin .rem (i64 m) (.int .i64 (.ofNat k)) = (bif ieq (.ofNat k) (.ofNat 0) then none else some (.int .i64 (Int.tmod (.ofNat m) (.ofNat k)))) := rfl
  rw [e]
  have h : ieq (.ofNat k) (.ofNat 0) = false := by
    show Nat.beq k 0 = false
    cases k with
    | zero => omega
    | succ k => rfl
  rw [h]
  rfl
end Go.Gh

/-
  THE GHOST MACHINE: the rule for strings.Join, out of the shelf's contract.
  No claim is proved here.
-/
namespace Go.Gh
open Go.RowKit (Below)

theorem cond_some' {α : Type} {b : Bool} {x : Option α} {o : α} (h : (bif b then x else none) = some o) : b = true ∧ x = some o := by
  cases b with
  | true => exact ⟨rfl, h⟩
  | false => cases h

/-- The texts among values. -/
def textsOf : List GVal → Option (List (List Nat))
  | [] => some []
  | v :: r => match v, textsOf r with | .str s, some l => some (s :: l) | _, _ => none
def joinTailN (sep : List Nat) : List (List Nat) → List Nat
  | [] => []
  | x :: r => sep ++ (x ++ joinTailN sep r)
def joinN (sep : List Nat) : List (List Nat) → List Nat
  | [] => []
  | x :: r => x ++ joinTailN sep r
def joinA (h : GHeap) (sep : List Nat) (x : Option (List (List Nat))) : Option (GVal × GHeap) :=
  match x with
  | some l => bif Nat.ble l.length 1000000 && Nat.ble (joinN sep l).length 1000000 then some (.str (joinN sep l), h) else none
  | none => none
def extJoin : Ext := fun args h =>
  match args with
  | [.vsl els _, .str sep] => joinA h sep (textsOf els)
  | [.nils, .str _] => some (.str [], h)
  | _ => none

theorem textsOf_get : ∀ {els : List GVal} {l : List (List Nat)}, textsOf els = some l → els = l.map .str := by
  intro els
  induction els with
  | nil => intro l h; cases h; rfl
  | cons v r ih =>
    intro l h
    simp only [textsOf] at h
    split at h
    · rename_i s l' hv
      cases h
      rw [ih hv]; rfl
    · cases h

def bN (l : List UInt8) : List Nat := l.map (·.toNat)
theorem joinTail_bN (sep : List UInt8) : ∀ (xs : List (List UInt8)), joinTailN (bN sep) (xs.map bN) = bN (Lib.joinTail sep xs) := by
  intro xs
  induction xs with
  | nil => rfl
  | cons x r ih =>
    rw [List.map_cons, joinTailN, ih]
    simp only [Lib.joinTail, List.map_cons, List.flatten_cons, bN, List.map_append, List.append_assoc]
theorem join_bN (sep : List UInt8) (xs : List (List UInt8)) : joinN (bN sep) (xs.map bN) = bN (Lib.join xs sep) := by
  cases xs with
  | nil => rfl
  | cons x r => rw [Lib.join_cons, List.map_cons, joinN, joinTail_bN]; simp [bN]

section
variable {P : Program} {C : GCfg}
theorem extJoin_ok {f : Nat} {fn : Func} (hf : P.funcs[f]? = some fn) (hn : (fn.name == "runtime.NumGoroutine") = false) (hb : fn.body.isNone = false)
    (h0 : ∀ (a : Option Addr) (c : Nat) (sep : ByteArray) (w : World), Calls P f #[.slice a 0 c, .string sep] w fun e w' => e = .returned (.string ⟨#[]⟩) ∧ w' = w)
    (hx : ∀ (bk o c : Nat) (xs : List ByteArray) (sep : ByteArray) (w : World), (∀ (j : Nat) x, xs[j]? = some x → w.cell? ⟨bk, o + j, none⟩ = some (.string x)) → bk < w.heap.size → xs.length ≤ 140737488355328 → xs.length ≤ c → (Lib.join (xs.map (·.data.toList)) sep.data.toList).length ≤ 140737488355328 →
      Calls P f #[.slice (some ⟨bk, o, none⟩) xs.length c, .string sep] w fun e w' => e = .returned (.string ⟨(Lib.join (xs.map (·.data.toList)) sep.data.toList).toArray⟩) ∧ Below w.heap.size w w') : ExtFor P C f extJoin := by
  intro args gargs base W0 Γ gh w r hC hs hr hW hx'
  unfold extJoin at hx'
  split at hx'
  · rename_i els tok sep
    obtain ⟨x, y, rfl, hx1, hy1⟩ := args_two hs hr
    cases hy1 with | str bs _ hbs =>
    cases hx1 with | vsl vr vo cap sz _ _ fv hsz hz hi h1 hv hc ht =>
    unfold joinA at hx'
    split at hx'
    · rename_i l hl
      obtain ⟨hb2, hx'⟩ := cond_some' hx'
      simp only [Bool.and_eq_true] at hb2
      cases hx'
      have hle := textsOf_get hl
      subst hle
      cases l with
      | nil =>
        refine ⟨_, w, callFunc_enter hf hn hb _ w, ?_⟩
        refine Calls.mono (h0 _ cap bs w) ?_
        rintro e w' ⟨rfl, rfl⟩
        exact ⟨_, rfl, Γ, Gam.le_refl _, .str ⟨#[]⟩ _ rfl, hW⟩
      | cons s0 l0 =>
        have hsz1 : sz = 1 := by
          have := hsz (.str s0) (by simp)
          simpa [GVal.cells] using this.symm
        subst hsz1
        obtain ⟨xs, hxl, hxs⟩ := pick_list (α := ByteArray) (s0 :: l0).length (fun j b => (s0 :: l0)[j]? = some (bts b) ∧ w.cell? ⟨vr, vo + j, none⟩ = some (.string b)) (fun j hj => by
          have hjm : j < ((s0 :: l0).map GVal.str).length := by simpa using hj
          have c := hW.immc _ _ _ (hi j 0 hjm (by omega))
          have hcell : ((s0 :: l0).map GVal.str)[j].cells = [.str (s0 :: l0)[j]] := by rw [List.getElem_map]; rfl
          have v := hv j hjm 0 (by rw [hcell]; simp)
          simp only [hcell, List.getElem_cons_zero] at v
          generalize fv j 0 = u at c v
          cases v with | str b _ hbb =>
          refine ⟨b, ?_, by simpa using c⟩
          rw [List.getElem?_eq_getElem hj]
          exact congrArg some hbb.symm)
        have hlt : vr < w.heap.size := imm_lt hW (hi 0 0 (by simp) (by omega))
        have hmap : (s0 :: l0) = xs.map bts := by
          apply List.ext_getElem?
          intro j
          rcases Nat.lt_or_ge j xs.length with h | h
          · rw [(hxs j h).1]; simp [h]
          · rw [List.getElem?_eq_none (by omega), List.getElem?_eq_none (by simpa using h)]
        have hsl : ((s0 :: l0).map GVal.str).length = xs.length := by rw [hmap]; simp
        have hjoin : joinN sep (s0 :: l0) = bN (Lib.join (xs.map (·.data.toList)) bs.data.toList) := by
          rw [← join_bN, hmap, ← hbs]
          simp only [List.map_map]
          rfl
        have hl1 : (s0 :: l0).length ≤ 1000000 := Nat.le_of_ble_eq_true hb2.1
        have hl2 : (joinN sep (s0 :: l0)).length ≤ 1000000 := Nat.le_of_ble_eq_true hb2.2
        rw [hjoin] at hl2
        have hl3 : (Lib.join (xs.map (·.data.toList)) bs.data.toList).length ≤ 1000000 := by simpa [bN] using hl2
        rw [hsl]
        refine ⟨_, w, callFunc_enter hf hn hb _ w, ?_⟩
        refine Calls.mono (hx vr vo cap xs bs w (fun j x e => ?_) hlt (by omega) (by rw [← hsl]; exact hc) (by omega)) ?_
        · obtain ⟨hj, rfl⟩ := List.getElem?_eq_some_iff.mp e
          exact (hxs j hj).2
        · rintro e w' ⟨rfl, hbel⟩
          refine ⟨_, rfl, Γ, Gam.le_refl _, ?_, hW.grow hbel⟩
          refine .str _ _ ?_
          rw [hjoin]; rfl
    · cases hx'
  · obtain ⟨x, y, rfl, hx1, hy1⟩ := args_two hs hr
    cases hx1
    cases hy1 with | str bs _ hbs =>
    cases hx'
    refine ⟨_, w, callFunc_enter hf hn hb _ w, ?_⟩
    refine Calls.mono (h0 _ 0 bs w) ?_
    rintro e w' ⟨rfl, rfl⟩
    exact ⟨_, rfl, Γ, Gam.le_refl _, .str ⟨#[]⟩ _ rfl, hW⟩
  · cases hx'
end
end Go.Gh

