/-
  The ghost machine: an interpreter over abstract values, and the proof that what it finds the program does. No claim is proved here; no conditions.
-/
import Derived.Test.YthfbndnibpdleaaGreatDoorGhostD
import Derived.Lib.Bytealg
import Derived.Laws.Externs
import Derived.Test.YthfbndnibpdleaaGreatDoorGhostA
import Derived.Lib.Join

/-
  THE GHOST MACHINE: the real memory grows; what lay there lies there.
  No claim is proved here.
-/
namespace Go.Gh
open Go.RowKit (Below)

section
variable {base : Nat} {W0 : World} {Γ : Gam} {gh : GHeap} {w w' : World}

theorem heap_lt {w : World} {r : Nat} {o : Obj} (h : w.heap[r]? = some o) : r < w.heap.size := by
  rcases Nat.lt_or_ge r w.heap.size with h' | h'
  · exact h'
  · rw [Array.getElem?_eq_none h'] at h; cases h

theorem grow_at (hb : Below w.heap.size w w') {r : Nat} {o : Obj} (h : w.heap[r]? = some o) : w'.heap[r]? = some o := by
  rw [hb.block r (heap_lt h)]; exact h

theorem RowAt.grow (hb : Below w.heap.size w w') {r : Nat} {c : Array Value} (h : RowAt w r c) : RowAt w' r c := by
  obtain ⟨ty, fz, e⟩ := h.here
  have e' := grow_at hb e
  refine ⟨⟨ty, fz, e'⟩, fun j hj => ?_⟩
  have := h.free j hj
  unfold World.frozen? at this ⊢
  simp only at this ⊢
  rw [hb.block r (heap_lt e)]; exact this

theorem BRel.grow (hb : Below w.heap.size w w') {k : Nat} {b : GBlock} (h : BRel base Γ w k b) : BRel base Γ w' k b := by
  cases b with
  | cells vals lo g =>
    obtain ⟨q, o, n, c, hl, hbb, hr, hs, hn, h1, hv, hi⟩ := h.ex
    exact ⟨q, o, n, c, hl, hbb, hr.grow hb, hs, hn, h1, hv, hi⟩
  | tip a =>
    cases a with
    | false => trivial
    | true =>
      obtain ⟨q, o, used, cap, sz, c, hl, hbb, hr, hs, hi⟩ := h.ex
      exact ⟨q, o, used, cap, sz, c, hl, hbb, hr.grow hb, hs, hi⟩
  | map es =>
    obtain ⟨q, o, n, es', clock, hl, hbb, hr, he⟩ := h.ex
    exact ⟨q, o, n, es', clock, hl, hbb, grow_at hb hr, he⟩
  | dead => trivial

theorem WRel.grow (h : WRel base W0 Γ gh w) (hb : Below w.heap.size w w') : WRel base W0 Γ gh w' := by
  refine ⟨?_, Nat.le_trans h.big hb.size, fun r o v e => ?_, h.frL, h.frT, fun k b hk => ⟨(h.blk k b hk).1, (h.blk k b hk).2.grow hb⟩, h.inj⟩
  · exact ⟨hb.os.trans h.below.os, hb.tape.trans h.below.tape, hb.output.trans h.below.output, Nat.le_trans h.below.size hb.size, fun k hk => by rw [hb.block k (Nat.lt_of_lt_of_le hk h.big)]; exact h.below.block k hk⟩
  · have := h.immc r o v e
    have hlt := imm_lt h e
    unfold World.cell? at this ⊢
    simp only at this ⊢
    rw [hb.block r hlt]; exact this
end

theorem pick_list {α : Type} [Inhabited α] (n : Nat) (p : Nat → α → Prop) (h : ∀ j, j < n → ∃ x, p j x) : ∃ zs : List α, zs.length = n ∧ ∀ j (hj : j < zs.length), p j zs[j] := by
  induction n with
  | zero => exact ⟨[], rfl, fun j hj => by simp at hj⟩
  | succ n ih =>
    obtain ⟨zs, hl, hz⟩ := ih fun j hj => h j (by omega)
    obtain ⟨x, hx⟩ := h n (by omega)
    refine ⟨zs ++ [x], by simp [hl], fun j hj => ?_⟩
    simp only [List.length_append, List.length_cons, List.length_nil] at hj
    rcases Nat.lt_or_ge j zs.length with h1 | h1
    · rw [List.getElem_append_left h1]; exact hz j h1
    · have : j = n := by omega
      subst this
      rw [List.getElem_append_right h1]
      simpa [hl] using hx

end Go.Gh

/-
  THE GHOST MACHINE: a closed call, reckoned once, is a rule of its own; tables of ghosts.
  No claim is proved here.
-/
namespace Go.Gh
open Go.RowKit (Below)

def FTree.All (p : Nat → GFunc → Prop) : FTree → Prop
  | .leaf => True
  | .node k f l r => p k f ∧ l.All p ∧ r.All p

theorem FTree.find_all {p : Nat → GFunc → Prop} : ∀ (t : FTree) (n : Nat) (g : GFunc), t.All p → t.find n = some g → p n g := by
  intro t
  induction t with
  | leaf => intro n g _ h; simp [FTree.find] at h
  | node k f l r ihl ihr =>
    intro n g ha h
    obtain ⟨h1, h2, h3⟩ := ha
    simp only [FTree.find] at h
    cases hb : Nat.beq n k with
    | true =>
      rw [hb] at h
      simp only [cond_true, Option.some.injEq] at h
      have := Nat.eq_of_beq_eq_true hb
      subst this; subst h; exact h1
    | false =>
      rw [hb] at h
      simp only [cond_false] at h
      cases hl : Nat.blt n k with
      | true => rw [hl] at h; exact ihl _ _ h2 h
      | false => rw [hl] at h; exact ihr _ _ h3 h

/-- A value that holds no memory. -/
def Plain (v : GVal) : Prop := ∀ (Γ Γ' : Gam) (x : Value), Γ'.unk = Γ.unk → VRel Γ x v → VRel Γ' x v
theorem plain_bool (b : Bool) : Plain (.bool b) := fun _ _ _ _ h => by cases h; exact .bool _
theorem plain_int (k : IntKind) (m : Int) : Plain (.int k m) := fun _ _ _ _ h => by cases h; exact .int _ _
theorem plain_str (l : List Nat) : Plain (.str l) := fun _ _ _ _ h => by cases h with | str s _ h => exact .str _ _ h
theorem plain_any (i : Nat) : Plain (.any i) := fun _ _ _ e h => by cases h with | any _ _ h h1 h2 h3 => exact .any _ _ (by rw [e]; exact h) h1 h2 h3
theorem plain_tuple (l : List GVal) (hl : ∀ v ∈ l, Plain v) : Plain (.tuple l) := fun Γ Γ' _ e h => by
  cases h with | tuple cs _ he h => exact .tuple _ _ he fun i hi => hl _ (List.getElem_mem _) Γ Γ' _ e (h i hi)

/-- The memory of which a call that knows none is told: what nobody changes, what is unknown. -/
def Gam.bare (Γ : Gam) : Gam := ⟨fun _ => Option.none, fun _ => Option.none, Γ.imm, Γ.unk⟩

theorem empty_get (k : Nat) : GHeap.empty.get k = Option.none := by
  have hn : ∀ p, Tr.get p (Tr.nil : Tr GBlock) = Option.none := fun p => by
    induction p with
    | e => rfl
    | l p ih => exact ih
    | r p ih => exact ih
  simp [GHeap.get, GHeap.empty, hn]

theorem wrel_bare {base : Nat} {W0 : World} {Γ : Gam} {gh : GHeap} {w : World} (h : WRel base W0 Γ gh w) : WRel w.heap.size w Γ.bare .empty w := by
  refine ⟨⟨rfl, rfl, rfl, Nat.le_refl _, fun _ _ => rfl⟩, Nat.le_refl _, fun r o v e => h.immc r o v e, fun _ _ => rfl, fun _ _ => rfl, fun k b e => ?_, fun k k' b b' r _ e => ?_⟩
  · exact absurd e (by rw [empty_get]; simp)
  · exact absurd e (by rw [empty_get]; simp)

/-- The globals of the turning lead to what nobody changes. -/
def GlobBare (P : Program) (C : GCfg) : Prop := ∀ (Γ : Gam), CfgOK P C Γ → CfgOK P C Γ.bare

theorem globBare_of {P : Program} {C : GCfg} (h : ∀ g v, C.glob g = some v → ∃ el, v = .vptr el 0 ∧ ∀ u ∈ el.cells, Plain u) : GlobBare P C := by
  intro Γ hC
  refine ⟨fun g v e => ?_, hC.2.1, hC.2.2⟩
  have hr := hC.1 g v e
  obtain ⟨el, rfl, hp⟩ := h g v e
  generalize hx : Value.pointer (some (⟨g, 0, Option.none⟩ : Addr)) = x at hr
  cases hr with
  | vptr r o off el f hi h1 h => exact .vptr r o _ el f hi h1 fun j hj => hp _ (List.getElem_mem _) Γ _ _ rfl (h j hj)

/-- A call that is told of no memory and answers a plain value: what it answers anywhere. -/
theorem closed_rule {P : Program} {C : GCfg} {call : CallF} (hc : CallOK P C call) (hb : GlobBare P C) {f : FuncId} {x : Ext}
    (hx : ∀ gargs gh r, x gargs gh = some r → r.2 = gh ∧ Plain r.1 ∧ (∀ v ∈ gargs, Plain v) ∧ ∃ h', call f gargs .empty = some (r.1, h')) : ExtFor P C f x := by
  intro args gargs base W0 Γ gh w r hC hs hr hW h
  obtain ⟨h1, hp, hpa, h', h2⟩ := hx _ _ _ h
  obtain ⟨n, w1, hrun, hn⟩ := hc f args gargs w.heap.size w Γ.bare .empty w (r.1, h') (hb _ hC) hs (fun i hi => hpa _ (List.getElem_mem _) Γ _ _ (by rfl) (hr i hi)) (wrel_bare hW) h2
  have conv : ∀ v w', Ans w.heap.size w Γ.bare (r.1, h') v w' → Ans base W0 Γ r v w' := by
    rintro v w' ⟨Γ', hle, hv, hW'⟩
    refine ⟨Γ, Gam.le_refl _, hp Γ' Γ v (by rw [hle.unk]; rfl) hv, ?_⟩
    rw [h1]
    exact hW.grow hW'.below
  refine ⟨n, w1, hrun, ?_⟩
  cases n with
  | value v => exact conv _ _ hn
  | skip => exact conv _ _ hn
  | enter f args => exact Calls.mono hn fun e w'' ⟨v, he, hv⟩ => ⟨v, he, conv _ _ hv⟩
  | _ => exact hn
end Go.Gh

/-
  THE GHOST MACHINE, THE SWIFT FORM: a table of functions, each one Lean term.
  No claim is proved here.
-/
namespace Go.Gh
noncomputable section
inductive TTree where
  | leaf
  | node (k : Nat) (T : TFun) (l r : TTree)
def TTree.find : TTree → Nat → Option TFun
  | .leaf, _ => none
  | .node k f l r, n => bif Nat.beq n k then some f else bif Nat.blt n k then l.find n else r.find n
def TTree.All (p : Nat → TFun → Prop) : TTree → Prop
  | .leaf => True
  | .node k f l r => p k f ∧ l.All p ∧ r.All p
def tDo (x : Option TFun) (E : GEnv) (call : CallF) (m : Nat) (args : List GVal) (h : GHeap) : Option (GVal × GHeap) := @Option.rec TFun (fun _ => Option (GVal × GHeap)) none (fun T => T E call m args h) x
/-- The calls: by the table, each one with less fuel. -/
def tCall (E : GEnv) (tbl : TTree) (n : Nat) : CallF := @Nat.rec (fun _ => CallF) (fun _ _ _ => none) (fun m ih f args h => tDo (tbl.find f) E ih m args h) n
/-- A rule as a function of the table. -/
def ruleT (x : Ext) : TFun := fun _ _ _ args h => x args h
end

theorem TTree.find_all {p : Nat → TFun → Prop} : ∀ (t : TTree) (n : Nat) (g : TFun), t.All p → t.find n = some g → p n g := by
  intro t
  induction t with
  | leaf => intro n g _ h; simp [TTree.find] at h
  | node k f l r ihl ihr =>
    intro n g ha h
    obtain ⟨h1, h2, h3⟩ := ha
    simp only [TTree.find] at h
    cases hb : Nat.beq n k with
    | true =>
      rw [hb] at h
      simp only [cond_true, Option.some.injEq] at h
      have := Nat.eq_of_beq_eq_true hb
      subst this; subst h; exact h1
    | false =>
      rw [hb] at h
      simp only [cond_false] at h
      cases hl : Nat.blt n k with
      | true => rw [hl] at h; exact ihl _ _ h2 h
      | false => rw [hl] at h; exact ihr _ _ h3 h

/-- A function of the table is the swift form of the program's, or a rule that holds of it. -/
def TOK (P : Program) (C : GCfg) (f : Nat) (T : TFun) : Prop :=
  (∃ x, T = ruleT x ∧ ExtFor P C f x) ∨ ∃ s fn hp fz, T = sRun s ∧ P.funcs[f]? = some fn ∧ gFuncOf P { C with heap := hp, fz := fz } fn = some s.erase ∧ (fn.name == "runtime.NumGoroutine") = false

theorem tCall_sound {P : Program} {C : GCfg} {E : GEnv} {tbl : TTree} (ht : tbl.All (TOK P C)) (hM : MethOK P C E) (hm : P.follows .mixedOrders = true) : ∀ n, CallOK P C (tCall E tbl n) := by
  intro n
  induction n with
  | zero => intro f args gargs base W0 Γ gh w r _ _ _ _ h; cases h
  | succ n ih =>
    intro f args gargs base W0 Γ gh w r hC hsz hrel hW h
    have h' : tDo (tbl.find f) E (tCall E tbl n) n gargs gh = some r := h
    cases hf : tbl.find f with
    | none => rw [hf] at h'; cases h'
    | some T =>
      rw [hf] at h'
      have h2 : T E (tCall E tbl n) n gargs gh = some r := h'
      rcases TTree.find_all tbl f T ht hf with ⟨x, rfl, hx⟩ | ⟨s, fn, hp, fz, rfl, hfn, hgf, hname⟩
      · exact hx args gargs base W0 Γ gh w r hC hsz hrel hW h2
      · exact runF_sound hM ih hm (fun _ call hT => draws E call hT) hfn hgf hname args gargs base W0 Γ gh w r hC hsz hrel hW (sRun_ok h2)
end Go.Gh

/-
  THE GHOST MACHINE, THE SWIFT FORM: how a term is reckoned at values that are known in part.
  No claim is proved here.
-/
namespace Go.Gh
section
variable {β α : Type}
theorem bnd_val (v : α) (k : α → Option β) : bnd (some v) k = k v := rfl
theorem bnd2_val (v : GVal) (h : GHeap) (k : GVal → GHeap → Option β) : bnd2 (some (v, h)) k = k v h := rfl
theorem uncons_cons (v : GVal) (vs : List GVal) (k : GVal → List GVal → Option β) : uncons (v :: vs) k = k v vs := rfl
theorem unnil_nil (r : Option β) : unnil [] r = r := rfl
theorem sEnd_ret (v : GVal) (h : GHeap) : sEnd (some (.ret v h)) = some (v, h) := rfl
theorem sJoin_normal (vs : List GVal) (h : GHeap) (k : List GVal → GHeap → SRes) : sJoin (some (.normal vs h)) k = k vs h := rfl
theorem sJoin_ret (v : GVal) (h : GHeap) (k : List GVal → GHeap → SRes) : sJoin (some (.ret v h)) k = some (.ret v h) := rfl
theorem sIf_true (A B : SRes) : sIf (.bool true) A B = A := rfl
theorem sIf_false (A B : SRes) : sIf (.bool false) A B = B := rfl
theorem gIf_tt (A B : SRes) : gIf (.bool true) true A B = A := rfl
theorem gIf_tf (A B : SRes) : gIf (.bool true) false A B = B := rfl
theorem gIf_ft (A B : SRes) : gIf (.bool false) true A B = B := rfl
theorem gIf_ff (A B : SRes) : gIf (.bool false) false A B = A := rfl
theorem pickB_true (a b : GVal) : pickF (.bool true) a b = some a := rfl
theorem pickB_false (a b : GVal) : pickF (.bool false) a b = some b := rfl
theorem nilChk_ptr (k o : Nat) : nilChkF (.ptr k o) = some (.ptr k o) := rfl
theorem fieldA_ptr (f k o : Nat) : fieldAF f (.ptr k o) = some (.ptr k (o + f)) := rfl
theorem fieldA_vptr (f : Nat) (v : GVal) (o : Nat) : fieldAF f (.vptr v o) = some (.vptr v (o + f)) := rfl
theorem eql_i64 (a b : Int) : eqlF (.int .i64 a) (.int .i64 b) = some (.bool (ieq a b)) := by rw [eqlF_eq]; rfl
theorem eql_str (a b : List Nat) : eqlF (.str a) (.str b) = some (.bool (natsSame a b)) := rfl
theorem lss_nat (i j : Nat) : lssF (.int .i64 (.ofNat i)) (.int .i64 (.ofNat j)) = some (.bool (Nat.blt i j)) := rfl
theorem len_vsl (els : List GVal) (t : Tok) : lenF false (.vsl els t) = some (.int .i64 (.ofNat els.length)) := by
  show some (GVal.int .i64 (.ofNat (lenL els))) = _
  rw [lenL_eq]
theorem load_ptr {h : GHeap} {b o : Nat} {l : List GVal} {lo : Nat} {gr : Bool} (hg : h.get b = some (.cells l lo gr)) : loadF h 1 false (.ptr b o) = nth l o := by
  show ldO 1 false o (h.get b) = _
  rw [hg]; rfl
theorem load_vptr (h : GHeap) (v : GVal) (o : Nat) : loadF h 1 false (.vptr v o) = nth v.cells o := by
  show nth (cellsF v) o = _
  rw [cellsF_eq]
theorem ixS_vsl {esz : Nat} {els : List GVal} {t : Tok} {i : Nat} {v : GVal} (hv : nth els i = some v) (hs : szF v esz = true) : ixSF esz (.vsl els t) (.int .i64 (.ofNat i)) = some (.vptr v 0) := by
  show vptrF esz (nth els i) = _
  rw [hv]
  show @Bool.rec (fun _ => Option GVal) none (some (GVal.vptr v 0)) (szF v esz) = _
  rw [hs]
theorem onPtr_some {v : GVal} {k : Nat → Nat → Option α} {r : α} (h : onPtr v none k = some r) : ∃ b o, v = .ptr b o ∧ k b o = some r := by
  cases v <;> first | exact ⟨_, _, rfl, h⟩ | cases h
theorem onInt_some {v : GVal} {k : IntKind → Int → Option α} {r : α} (h : onInt v none k = some r) : ∃ b o, v = .int b o ∧ k b o = some r := by
  cases v <;> first | exact ⟨_, _, rfl, h⟩ | cases h
theorem onStr_some {v : GVal} {k : List Nat → Option α} {r : α} (h : onStr v none k = some r) : ∃ s, v = .str s ∧ k s = some r := by
  cases v <;> first | exact ⟨_, rfl, h⟩ | cases h
theorem onVsl_some {v : GVal} {k : List GVal → Tok → Option α} {r : α} (h : onVsl v none k = some r) : ∃ a b, v = .vsl a b ∧ k a b = some r := by
  cases v <;> first | exact ⟨_, _, rfl, h⟩ | cases h
theorem onAgg_some {v : GVal} {k : List GVal → Option α} {r : α} (h : onAgg v none k = some r) : ∃ s, v = .agg s ∧ k s = some r := by
  cases v <;> first | exact ⟨_, rfl, h⟩ | cases h
theorem onI64_some {k : IntKind} {x : Option α} {r : α} (h : onI64 k none x = some r) : k = .i64 ∧ x = some r := by
  cases k <;> first | exact ⟨rfl, h⟩ | cases h
theorem onNat_some {a : Int} {k : Nat → Option α} {r : α} (h : onNat a none k = some r) : ∃ n, a = .ofNat n ∧ k n = some r := by
  cases a <;> first | exact ⟨_, rfl, h⟩ | cases h
theorem onIf_some {b : Bool} {x : Option α} {r : α} (h : onIf b x none = some r) : b = true ∧ x = some r := by
  cases b <;> first | exact ⟨rfl, h⟩ | cases h
theorem onSome_some {γ : Type} {x : Option γ} {k : γ → Option α} {r : α} (h : onSome x none k = some r) : ∃ v, x = some v ∧ k v = some r := by
  cases x <;> first | exact ⟨_, rfl, h⟩ | cases h
theorem onCells_some {b : GBlock} {k : List GVal → Nat → Bool → Option α} {r : α} (h : onCells b none k = some r) : ∃ l lo g, b = .cells l lo g ∧ k l lo g = some r := by
  cases b <;> first | exact ⟨_, _, _, rfl, h⟩ | cases h
theorem uncons_some {l : List GVal} {k : GVal → List GVal → Option α} {r : α} (h : uncons l k = some r) : ∃ v vs, l = v :: vs ∧ k v vs = some r := by
  cases l <;> first | exact ⟨_, _, rfl, h⟩ | cases h
theorem unnil_some {l : List GVal} {x : Option α} {r : α} (h : unnil l x = some r) : l = [] ∧ x = some r := by
  cases l <;> first | exact ⟨rfl, h⟩ | cases h
end

/-- A rule that a function of the table bears out by itself, whatever it may call. -/
theorem leaf_rule {P : Program} {C : GCfg} {E : GEnv} {f : Nat} {T : TFun} {x : Ext} (ht : TOK P C f T) (hM : MethOK P C E) (hm : P.follows .mixedOrders = true)
    (hx : ∀ args h r, x args h = some r → T E (fun _ _ _ => none) 0 args h = some r) : ExtFor P C f x := by
  intro args gargs base W0 Γ gh w r hC hsz hrel hW h
  have h2 := hx _ _ _ h
  rcases ht with ⟨y, rfl, hy⟩ | ⟨s, fn, hp, fz, rfl, hfn, hgf, hname⟩
  · exact hy args gargs base W0 Γ gh w r hC hsz hrel hW h2
  · exact runF_sound hM (fun f args gargs base W0 Γ gh w r _ _ _ _ h => by cases h) hm (fun _ call hT => draws E call hT) hfn hgf hname args gargs base W0 Γ gh w r hC hsz hrel hW (sRun_ok h2)
end Go.Gh

/-
  THE GHOST MACHINE: functions without a body whose answer the model gives.
  No claim is proved here.
-/
namespace Go.Gh

theorem indexByte_eq (c : UInt8) : ∀ (l : List UInt8) (i : Nat), indexByte c.toNat (l.map (·.toNat)) i = if Lib.indexByte l c = -1 then -1 else Lib.indexByte l c + i := by
  intro l
  induction l with
  | nil => intro i; rfl
  | cons b l ih =>
    intro i
    have hge := Lib.indexByte_ge l c
    simp only [List.map_cons, indexByte]
    rw [beq_bool]
    by_cases h : b = c
    · have e : Lib.indexByte (b :: l) c = 0 := by rw [Lib.indexByte, if_pos (by simpa using h)]
      rw [e]; subst h; simp
    · have e : Lib.indexByte (b :: l) c = if Lib.indexByte l c == -1 then -1 else Lib.indexByte l c + 1 := by rw [Lib.indexByte, if_neg (by simpa using h)]
      have hn : ¬ b.toNat = c.toNat := fun e => h (UInt8.toNat_inj.mp e)
      rw [e]
      simp only [hn, decide_false, cond_false]
      rw [ih]
      by_cases h1 : Lib.indexByte l c = -1
      · simp [h1]
      · have h2 : ¬ (Lib.indexByte l c + 1 = -1) := by omega
        simp only [h1, if_false, h2, beq_iff_eq]
        have : (Nat.succ i : Nat) = i + 1 := rfl
        omega

section
variable {P : Program} {C : GCfg}

theorem extIndexByte_ok {f : Nat} {fn : Func} (hf : P.funcs[f]? = some fn) (hn : (fn.name == "runtime.NumGoroutine") = false) (hb : fn.body.isNone = true) (hx : Extern.findNext fn = none) (he : Extern.find fn = some Extern.BytealgIndexByte.indexByte) : ExtFor P C f extIndexByte := by
  intro args gargs base W0 Γ gh w r hC hs hr hW hx'
  unfold extIndexByte at hx'
  split at hx'
  · rename_i s b
    obtain ⟨x, y, rfl, hx1, hy1⟩ := args_two hs hr
    cases hx1 with | str bs _ hbs =>
    cases hy1 with | int k m =>
    cases hlt : Nat.blt b 256 with
    | false => rw [hlt] at hx'; cases hx'
    | true =>
      rw [hlt] at hx'
      simp only [cond_true, Option.some.injEq] at hx'; subst hx'
      have hb256 : b < 256 := Nat.le_of_ble_eq_true hlt
      refine ⟨.value (.int .i64 (Lib.indexByte bs.data.toList (Int.ofNat b).toNat.toUInt8)), w, ?_, Γ, Gam.le_refl _, ?_, hW⟩
      · rw [run_callFunc_extern hf hn hb hx he, Lib.run_indexByteString]
        rfl
      · subst hbs
        have e0 : ((Int.ofNat b).toNat.toUInt8).toNat = b := by
          show (Nat.toUInt8 b).toNat = b
          simp; omega
        have e1 := indexByte_eq ((Int.ofNat b).toNat.toUInt8) bs.data.toList 0
        rw [e0] at e1
        rw [e1]
        have e2 : (if Lib.indexByte bs.data.toList (Int.ofNat b).toNat.toUInt8 = -1 then -1 else Lib.indexByte bs.data.toList (Int.ofNat b).toNat.toUInt8 + ((0 : Nat) : Int)) = Lib.indexByte bs.data.toList (Int.ofNat b).toNat.toUInt8 := by
          split
          · rename_i h; exact h.symm
          · simp
        rw [e2]
        exact .int _ _
  · cases hx'
end
end Go.Gh

/-
  THE GHOST MACHINE: a call from outside: what the ghost answers, the program answers.
  No claim is proved here.
-/
namespace Go.Gh
open Go.RowKit (Below)

/-- A type whose values are ints. -/
def intOk (P : Program) (u : TypeId) : Bool := match P.info? u, P.underlying u with | some i, some (.int _) => i.comparable | _, _ => false
theorem intOk_spec {P : Program} {u : TypeId} (h : intOk P u = true) : ∃ i k, P.info? u = some i ∧ i.comparable = true ∧ P.underlying u = some (.int k) := by
  unfold intOk at h
  split at h
  · rename_i i k hi hk; exact ⟨i, k, hi, h, hk⟩
  · cases h
theorem ints_ok {P : Program} {l : List TypeId} (h : l.all (intOk P) = true) : ∀ u ∈ l, ∃ i k, P.info? u = some i ∧ i.comparable = true ∧ P.underlying u = some (.int k) :=
  fun u hu => intOk_spec (List.all_eq_true.mp h u hu)

/-- Nothing is known of the memory but the cells that nobody changes. -/
theorem wrel_imm (w : World) (Γ : Gam) (hl : ∀ k, Γ.loc k = none) (ht : ∀ k, Γ.tip k = none) (hi : ∀ r o v, Γ.imm r o = some v → w.cell? ⟨r, o, none⟩ = some v) : WRel w.heap.size w Γ .empty w := by
  refine ⟨⟨rfl, rfl, rfl, Nat.le_refl _, fun _ _ => rfl⟩, Nat.le_refl _, hi, fun k _ => hl k, fun k _ => ht k, fun k b e => ?_, fun k k' b b' r _ e => ?_⟩
  · exact absurd e (by rw [empty_get]; simp)
  · exact absurd e (by rw [empty_get]; simp)

theorem isTrue_spec {r : Option (GVal × GHeap)} (h : isTrue r = true) : ∃ h', r = some (.bool true, h') := by
  unfold isTrue at h
  split at h
  · exact ⟨_, rfl⟩
  · cases h

/-- A law that the ghost finds true is true. -/
theorem law_calls {P : Program} {C : GCfg} {call : CallF} (hc : CallOK P C call) {f : FuncId} {fn : Func} (hf : P.funcs[f]? = some fn) (hn : (fn.name == "runtime.NumGoroutine") = false) (hb : fn.body.isNone = false)
    (w : World) (Γ : Gam) (hC : CfgOK P C Γ) (hl : ∀ k, Γ.loc k = none) (ht : ∀ k, Γ.tip k = none) (hi : ∀ r o v, Γ.imm r o = some v → w.cell? ⟨r, o, none⟩ = some v)
    (args : Array Value) (gargs : List GVal) (hs : args.size = gargs.length) (hr : ∀ i (hi : i < gargs.length), VRel Γ (args.getD i undef) gargs[i]) (h : isTrue (call f gargs .empty) = true) :
    Calls P f args w fun e w' => e = .returned (.bool true) ∧ Below w.heap.size w w' := by
  obtain ⟨h', he⟩ := isTrue_spec h
  obtain ⟨n, w1, hrun, hn'⟩ := hc f args gargs w.heap.size w Γ .empty w _ hC hs hr (wrel_imm w Γ hl ht hi) he
  rw [callFunc_enter hf hn hb args w] at hrun
  cases hrun
  refine Calls.mono hn' ?_
  rintro e w'' ⟨v, rfl, Γ', hle, hv, hW⟩
  cases hv
  exact ⟨rfl, hW.below⟩

theorem vptr_any {Γ : Gam} {g i : Nat} {x : Value} (hi : Γ.imm g 0 = some x) (hu : Γ.unk i = some x) (h1 : x.cells = #[x]) (h2 : x.oneCell' = true) (h3 : ∀ b, x ≠ .bool b) : VRel Γ (.pointer (some ⟨g, 0, none⟩)) (.vptr (.any i) 0) :=
  .vptr g 0 0 (.any i) (fun _ => x) (fun j hj => by have : j = 0 := by simpa [GVal.cells] using hj
                                                    subst this; exact hi) (fun v hv => by simp [GVal.cells] at hv; subst hv; rfl)
    (fun j hj => by
      have : j = 0 := by simpa [GVal.cells] using hj
      subst this; exact .any i x hu h1 h2 h3)
end Go.Gh

/-
  THE GHOST MACHINE: rules for texts that begin with a known word: the word's answer is reckoned once, whatever follows.
  No claim is proved here.
-/
namespace Go.Gh
noncomputable section
def fstOf (r : Option (GVal × GHeap)) : Option GVal := match r with | some p => some p.1 | none => none
def dictFind (s : List Nat) (d : List (List Nat × GVal)) : Option GVal := @List.rec (List Nat × GVal) (fun _ => Option GVal) none (fun p _ ih => bif prefixOf p.1 s then some p.2 else ih) d
def dictSame (s : List Nat) (d : List (List Nat × GVal)) : Option GVal := @List.rec (List Nat × GVal) (fun _ => Option GVal) none (fun p _ ih => bif natsSame p.1 s then some p.2 else ih) d
def ansX (x : Option GVal) (h : GHeap) : Option (GVal × GHeap) := match x with | some v => some (v, h) | none => none
/-- What begins with a word of d, and is followed by whatever; else what is a word of e alone. -/
def dictX (d e : List (List Nat × GVal)) : Ext := fun args h => match args with | [.str s] => (match dictFind s d with | some v => some (v, h) | none => ansX (dictSame s e) h) | _ => none

def atomB (v : GVal) : Bool := match v with | .bool _ => true | .int _ _ => true | .str _ => true | .any _ => true | _ => false
def flatB (v : GVal) : Bool := match v with | .agg l => l.all atomB | v => atomB v
def plainB (v : GVal) : Bool := match v with | .tuple l => l.all flatB | v => flatB v
end

theorem atomB_plain {v : GVal} (h : atomB v = true) : Plain v := by
  cases v <;> simp only [atomB, Bool.false_eq_true] at h
  · exact plain_bool _
  · exact plain_int _ _
  · exact plain_str _
  · exact plain_any _
theorem plain_agg (l : List GVal) (hl : ∀ v ∈ l, Plain v) : Plain (.agg l) := fun Γ Γ' _ e h => by
  cases h with | agg cs _ he h1 h => exact .agg _ _ he h1 fun i hi => hl _ (List.getElem_mem _) Γ Γ' _ e (h i hi)
theorem flatB_plain {v : GVal} (h : flatB v = true) : Plain v := by
  unfold flatB at h
  split at h
  · exact plain_agg _ fun u hu => atomB_plain (List.all_eq_true.mp h u hu)
  · exact atomB_plain h
theorem plainB_plain {v : GVal} (h : plainB v = true) : Plain v := by
  unfold plainB at h
  split at h
  · exact plain_tuple _ fun u hu => flatB_plain (List.all_eq_true.mp h u hu)
  · exact flatB_plain h

theorem prefixOf_split : ∀ {a s : List Nat}, prefixOf a s = true → ∃ rest, s = a ++ rest := by
  intro a
  induction a with
  | nil => intro s _; exact ⟨s, rfl⟩
  | cons x a ih =>
    intro s h
    cases s with
    | nil => cases h
    | cons y s =>
      simp only [prefixOf_cons, Bool.and_eq_true] at h
      obtain ⟨rest, rfl⟩ := ih h.2
      have := Nat.eq_of_beq_eq_true h.1
      subst this
      exact ⟨rest, rfl⟩
theorem natsSame_eq : ∀ {a s : List Nat}, natsSame a s = true → a = s := by
  intro a
  induction a with
  | nil => intro s h; cases s with | nil => rfl | cons y s => simp [natsSame_nil_cons] at h
  | cons x a ih =>
    intro s h
    cases s with
    | nil => simp [natsSame_cons_nil] at h
    | cons y s =>
      simp only [natsSame_cons, Bool.and_eq_true] at h
      rw [Nat.eq_of_beq_eq_true h.1, ih h.2]

theorem dictFind_some {s : List Nat} {v : GVal} : ∀ {d : List (List Nat × GVal)}, dictFind s d = some v → ∃ p ∈ d, v = p.2 ∧ ∃ rest, s = p.1 ++ rest := by
  intro d
  induction d with
  | nil => intro h; cases h
  | cons p d ih =>
    intro h
    have h' : (bif prefixOf p.1 s then some p.2 else dictFind s d) = some v := h
    cases hb : prefixOf p.1 s with
    | true => rw [hb] at h'; cases h'; exact ⟨p, List.mem_cons_self .., rfl, prefixOf_split hb⟩
    | false =>
      rw [hb] at h'
      obtain ⟨q, hq, h1⟩ := ih h'
      exact ⟨q, List.mem_cons_of_mem _ hq, h1⟩
theorem dictSame_some {s : List Nat} {v : GVal} : ∀ {d : List (List Nat × GVal)}, dictSame s d = some v → ∃ p ∈ d, v = p.2 ∧ s = p.1 := by
  intro d
  induction d with
  | nil => intro h; cases h
  | cons p d ih =>
    intro h
    have h' : (bif natsSame p.1 s then some p.2 else dictSame s d) = some v := h
    cases hb : natsSame p.1 s with
    | true => rw [hb] at h'; cases h'; exact ⟨p, List.mem_cons_self .., rfl, (natsSame_eq hb).symm⟩
    | false =>
      rw [hb] at h'
      obtain ⟨q, hq, h1⟩ := ih h'
      exact ⟨q, List.mem_cons_of_mem _ hq, h1⟩

theorem fstOf_some {r : Option (GVal × GHeap)} {v : GVal} (h : fstOf r = some v) : ∃ h', r = some (v, h') := by
  cases r with
  | none => cases h
  | some p => cases h; exact ⟨p.2, rfl⟩

/-- Every word's answer, reckoned, makes the rule. -/
theorem dictX_ok {P : Program} {C : GCfg} {call : CallF} (hc : CallOK P C call) (hb : GlobBare P C) {f : FuncId} {d e : List (List Nat × GVal)}
    (hpd : d.all (fun p => plainB p.2) = true) (hpe : e.all (fun p => plainB p.2) = true)
    (hd : ∀ p ∈ d, ∀ rest, fstOf (call f [.str (p.1 ++ rest)] .empty) = some p.2) (he : ∀ p ∈ e, fstOf (call f [.str p.1] .empty) = some p.2) : ExtFor P C f (dictX d e) := by
  refine closed_rule hc hb fun gargs gh r hx => ?_
  unfold dictX at hx
  split at hx
  · rename_i s
    split at hx
    · rename_i v hv
      cases hx
      obtain ⟨p, hp, rfl, rest, rfl⟩ := dictFind_some hv
      exact ⟨rfl, plainB_plain (List.all_eq_true.mp hpd p hp), fun u hu => by rw [List.mem_singleton.mp hu]; exact plain_str _, fstOf_some (hd p hp rest)⟩
    · unfold ansX at hx
      split at hx
      · rename_i v hv
        cases hx
        obtain ⟨p, hp, rfl, rfl⟩ := dictSame_some hv
        exact ⟨rfl, plainB_plain (List.all_eq_true.mp hpe p hp), fun u hu => by rw [List.mem_singleton.mp hu]; exact plain_str _, fstOf_some (he p hp)⟩
      · cases hx
  · cases hx

/-- A byte with which no blank and no remark begins. -/
def solid (c : Nat) : Bool := (Nat.ble 36 c && Nat.blt c 127) || Nat.beq c 33
def i64 (n : Nat) : GVal := .int .i64 (.ofNat n)
/-- How many blanks a text begins with: two at most, and no remark. -/
def skipX : Ext := fun args h =>
  match args with
  | [.str s] =>
    match s with
    | [] => some (i64 0, h)
    | c :: r =>
      bif Nat.beq c 32 then (match r with | [] => some (i64 1, h) | d :: t => bif solid d then some (i64 1, h) else bif Nat.beq d 32 then (match t with | [] => none | g :: _ => bif solid g then some (i64 2, h) else none) else none)
      else bif solid c then some (i64 0, h) else none
  | _ => none
theorem skipX_ok {P : Program} {C : GCfg} {call : CallF} (hc : CallOK P C call) (hb : GlobBare P C) {f : FuncId}
    (h0 : fstOf (call f [.str []] .empty) = some (i64 0)) (h1 : fstOf (call f [.str [32]] .empty) = some (i64 1))
    (hs : ∀ c, solid c = true → ∀ rest, fstOf (call f [.str (c :: rest)] .empty) = some (i64 0) ∧ fstOf (call f [.str (32 :: c :: rest)] .empty) = some (i64 1) ∧ fstOf (call f [.str (32 :: 32 :: c :: rest)] .empty) = some (i64 2)) : ExtFor P C f skipX := by
  refine closed_rule hc hb fun gargs gh r hx => ?_
  unfold skipX at hx
  split at hx
  · rename_i s
    have hp : ∀ n, Plain (i64 n) := fun n => plain_int _ _
    have ha : ∀ u ∈ [GVal.str s], Plain u := fun u hu => by rw [List.mem_singleton.mp hu]; exact plain_str _
    split at hx
    · cases hx; exact ⟨rfl, hp _, ha, fstOf_some h0⟩
    · rename_i c t
      cases hc32 : Nat.beq c 32 with
      | true =>
        rw [hc32] at hx
        have := Nat.eq_of_beq_eq_true hc32
        subst this
        simp only [cond_true] at hx
        split at hx
        · cases hx; exact ⟨rfl, hp _, ha, fstOf_some h1⟩
        · rename_i d t
          cases hd : solid d with
          | true => rw [hd] at hx; cases hx; exact ⟨rfl, hp _, ha, fstOf_some (hs d hd t).2.1⟩
          | false =>
            rw [hd] at hx
            cases hd32 : Nat.beq d 32 with
            | false => rw [hd32] at hx; cases hx
            | true =>
              rw [hd32] at hx
              have := Nat.eq_of_beq_eq_true hd32
              subst this
              simp only [cond_true, cond_false] at hx
              split at hx
              · cases hx
              · rename_i g u
                obtain ⟨hg, hx⟩ := cond_some hx
                cases hx; exact ⟨rfl, hp _, ha, fstOf_some (hs g hg u).2.2⟩
      | false =>
        rw [hc32] at hx
        obtain ⟨hd, hx⟩ := cond_some hx
        cases hx; exact ⟨rfl, hp _, ha, fstOf_some (hs c hd t).1⟩
  · cases hx
theorem solid_cases {c : Nat} (h : solid c = true) : c = 33 ∨ (36 ≤ c ∧ c < 127) := by
  simp only [solid, Bool.or_eq_true, Bool.and_eq_true] at h
  rcases h with ⟨h1, h2⟩ | h
  · exact .inr ⟨Nat.le_of_ble_eq_true h1, Nat.le_of_ble_eq_true h2⟩
  · exact .inl (Nat.eq_of_beq_eq_true h)
end Go.Gh

/-
  THE GHOST MACHINE: 'n & 65535 % m': a number that may be any becomes one of few.
  No claim is proved here.
-/
namespace Go.Gh

theorem and16 (n : Int) : ∃ m, m < 65536 ∧ gBin .and (.int .i64 n) (.int .i64 (.ofNat 65535)) = some (i64 m) := by
  refine ⟨(BitVec.ofInt 64 n &&& BitVec.ofInt 64 65535).toNat, ?_, ?_⟩
  · rw [BitVec.toNat_and]
    have : (BitVec.ofInt 64 65535).toNat = 65535 := by decide
    rw [this]
    have := @Nat.and_le_right (BitVec.ofInt 64 n).toNat 65535
    omega
  · show some (fAnd .i64 n (.ofNat 65535)) = _
    rw [fAnd_eq]
    have hlt : (BitVec.ofInt 64 n &&& BitVec.ofInt 64 65535).toNat < 65536 := by
      rw [BitVec.toNat_and]
      have : (BitVec.ofInt 64 65535).toNat = 65535 := by decide
      rw [this]
      have := @Nat.and_le_right (BitVec.ofInt 64 n).toNat 65535
      omega
    have e : bAnd .i64 n (.ofNat 65535) = .int .i64 (IntKind.wrap .i64 ((BitVec.ofInt 64 n &&& BitVec.ofInt 64 65535).toNat : Int)) := rfl
    rw [e]
    have hw : IntKind.wrap .i64 ((BitVec.ofInt 64 n &&& BitVec.ofInt 64 65535).toNat : Int) = ((BitVec.ofInt 64 n &&& BitVec.ofInt 64 65535).toNat : Int) := by
      generalize (BitVec.ofInt 64 n &&& BitVec.ofInt 64 65535).toNat = x at hlt
      simp only [IntKind.wrap, IntKind.signed, IntKind.bits]
      simp
      omega
    rw [hw]; rfl

theorem and16_nat {m : Nat} (h : m < 65536) : gBin .and (i64 m) (.int .i64 (.ofNat 65535)) = some (i64 m) := by
  have e : gBin .and (i64 m) (.int .i64 (.ofNat 65535)) = some (bif inKind .i64 (.ofNat m) && inKind .i64 (.ofNat 65535) then .int .i64 (.ofNat (Nat.land m 65535)) else bAnd .i64 (.ofNat m) (.ofNat 65535)) := rfl
  rw [e]
  have h1 : inKind .i64 (.ofNat m) = true := by
    show Nat.blt m 9223372036854775808 = true
    simp only [Nat.blt, Nat.ble_eq]; omega
  have h2 : inKind .i64 (.ofNat 65535) = true := rfl
  have h3 : Nat.land m 65535 = m := by
    show m &&& 65535 = m
    have : (65535 : Nat) = 2 ^ 16 - 1 := rfl
    rw [this, Nat.and_two_pow_sub_one_eq_mod, Nat.mod_eq_of_lt h]
  rw [h1, h2, h3]; rfl

theorem rem_nat {m k : Nat} (hk : 0 < k) : gBin .rem (i64 m) (.int .i64 (.ofNat k)) = some (i64 (m % k)) := by
  have e : gBin .rem (i64 m) (.int .i64 (.ofNat k)) = (bif ieq (.ofNat k) (.ofNat 0) then none else some (.int .i64 (Int.tmod (.ofNat m) (.ofNat k)))) := rfl
  rw [e]
  have h : ieq (.ofNat k) (.ofNat 0) = false := by
    show Nat.beq k 0 = false
    cases k with
    | zero => omega
    | succ k => rfl
  rw [h]
  rfl
end Go.Gh

/-
  THE GHOST MACHINE: the rule for strings.Join, out of the shelf's contract.
  No claim is proved here.
-/
namespace Go.Gh
open Go.RowKit (Below)

theorem cond_some' {α : Type} {b : Bool} {x : Option α} {o : α} (h : (bif b then x else none) = some o) : b = true ∧ x = some o := by
  cases b with
  | true => exact ⟨rfl, h⟩
  | false => cases h

/-- The texts among values. -/
def textsOf : List GVal → Option (List (List Nat))
  | [] => some []
  | v :: r => match v, textsOf r with | .str s, some l => some (s :: l) | _, _ => none
def joinTailN (sep : List Nat) : List (List Nat) → List Nat
  | [] => []
  | x :: r => sep ++ (x ++ joinTailN sep r)
def joinN (sep : List Nat) : List (List Nat) → List Nat
  | [] => []
  | x :: r => x ++ joinTailN sep r
def joinA (h : GHeap) (sep : List Nat) (x : Option (List (List Nat))) : Option (GVal × GHeap) :=
  match x with
  | some l => bif Nat.ble l.length 1000000 && Nat.ble (joinN sep l).length 1000000 then some (.str (joinN sep l), h) else none
  | none => none
def extJoin : Ext := fun args h =>
  match args with
  | [.vsl els _, .str sep] => joinA h sep (textsOf els)
  | [.nils, .str _] => some (.str [], h)
  | _ => none

theorem textsOf_get : ∀ {els : List GVal} {l : List (List Nat)}, textsOf els = some l → els = l.map .str := by
  intro els
  induction els with
  | nil => intro l h; cases h; rfl
  | cons v r ih =>
    intro l h
    simp only [textsOf] at h
    split at h
    · rename_i s l' hv
      cases h
      rw [ih hv]; rfl
    · cases h

def bN (l : List UInt8) : List Nat := l.map (·.toNat)
theorem joinTail_bN (sep : List UInt8) : ∀ (xs : List (List UInt8)), joinTailN (bN sep) (xs.map bN) = bN (Lib.joinTail sep xs) := by
  intro xs
  induction xs with
  | nil => rfl
  | cons x r ih =>
    rw [List.map_cons, joinTailN, ih]
    simp only [Lib.joinTail, List.map_cons, List.flatten_cons, bN, List.map_append, List.append_assoc]
theorem join_bN (sep : List UInt8) (xs : List (List UInt8)) : joinN (bN sep) (xs.map bN) = bN (Lib.join xs sep) := by
  cases xs with
  | nil => rfl
  | cons x r => rw [Lib.join_cons, List.map_cons, joinN, joinTail_bN]; simp [bN]

section
variable {P : Program} {C : GCfg}
theorem extJoin_ok {f : Nat} {fn : Func} (hf : P.funcs[f]? = some fn) (hn : (fn.name == "runtime.NumGoroutine") = false) (hb : fn.body.isNone = false)
    (h0 : ∀ (a : Option Addr) (c : Nat) (sep : ByteArray) (w : World), Calls P f #[.slice a 0 c, .string sep] w fun e w' => e = .returned (.string ⟨#[]⟩) ∧ w' = w)
    (hx : ∀ (bk o c : Nat) (xs : List ByteArray) (sep : ByteArray) (w : World), (∀ (j : Nat) x, xs[j]? = some x → w.cell? ⟨bk, o + j, none⟩ = some (.string x)) → bk < w.heap.size → xs.length ≤ 140737488355328 → xs.length ≤ c → (Lib.join (xs.map (·.data.toList)) sep.data.toList).length ≤ 140737488355328 →
      Calls P f #[.slice (some ⟨bk, o, none⟩) xs.length c, .string sep] w fun e w' => e = .returned (.string ⟨(Lib.join (xs.map (·.data.toList)) sep.data.toList).toArray⟩) ∧ Below w.heap.size w w') : ExtFor P C f extJoin := by
  intro args gargs base W0 Γ gh w r hC hs hr hW hx'
  unfold extJoin at hx'
  split at hx'
  · rename_i els tok sep
    obtain ⟨x, y, rfl, hx1, hy1⟩ := args_two hs hr
    cases hy1 with | str bs _ hbs =>
    cases hx1 with | vsl vr vo cap sz _ _ fv hsz hz hi h1 hv hc ht =>
    unfold joinA at hx'
    split at hx'
    · rename_i l hl
      obtain ⟨hb2, hx'⟩ := cond_some' hx'
      simp only [Bool.and_eq_true] at hb2
      cases hx'
      have hle := textsOf_get hl
      subst hle
      cases l with
      | nil =>
        refine ⟨_, w, callFunc_enter hf hn hb _ w, ?_⟩
        refine Calls.mono (h0 _ cap bs w) ?_
        rintro e w' ⟨rfl, rfl⟩
        exact ⟨_, rfl, Γ, Gam.le_refl _, .str ⟨#[]⟩ _ rfl, hW⟩
      | cons s0 l0 =>
        have hsz1 : sz = 1 := by
          have := hsz (.str s0) (by simp)
          simpa [GVal.cells] using this.symm
        subst hsz1
        obtain ⟨xs, hxl, hxs⟩ := pick_list (α := ByteArray) (s0 :: l0).length (fun j b => (s0 :: l0)[j]? = some (bts b) ∧ w.cell? ⟨vr, vo + j, none⟩ = some (.string b)) (fun j hj => by
          have hjm : j < ((s0 :: l0).map GVal.str).length := by simpa using hj
          have c := hW.immc _ _ _ (hi j 0 hjm (by omega))
          have hcell : ((s0 :: l0).map GVal.str)[j].cells = [.str (s0 :: l0)[j]] := by rw [List.getElem_map]; rfl
          have v := hv j hjm 0 (by rw [hcell]; simp)
          simp only [hcell, List.getElem_cons_zero] at v
          generalize fv j 0 = u at c v
          cases v with | str b _ hbb =>
          refine ⟨b, ?_, by simpa using c⟩
          rw [List.getElem?_eq_getElem hj]
          exact congrArg some hbb.symm)
        have hlt : vr < w.heap.size := imm_lt hW (hi 0 0 (by simp) (by omega))
        have hmap : (s0 :: l0) = xs.map bts := by
          apply List.ext_getElem?
          intro j
          rcases Nat.lt_or_ge j xs.length with h | h
          · rw [(hxs j h).1]; simp [h]
          · rw [List.getElem?_eq_none (by omega), List.getElem?_eq_none (by simpa using h)]
        have hsl : ((s0 :: l0).map GVal.str).length = xs.length := by rw [hmap]; simp
        have hjoin : joinN sep (s0 :: l0) = bN (Lib.join (xs.map (·.data.toList)) bs.data.toList) := by
          rw [← join_bN, hmap, ← hbs]
          simp only [List.map_map]
          rfl
        have hl1 : (s0 :: l0).length ≤ 1000000 := Nat.le_of_ble_eq_true hb2.1
        have hl2 : (joinN sep (s0 :: l0)).length ≤ 1000000 := Nat.le_of_ble_eq_true hb2.2
        rw [hjoin] at hl2
        have hl3 : (Lib.join (xs.map (·.data.toList)) bs.data.toList).length ≤ 1000000 := by simpa [bN] using hl2
        rw [hsl]
        refine ⟨_, w, callFunc_enter hf hn hb _ w, ?_⟩
        refine Calls.mono (hx vr vo cap xs bs w (fun j x e => ?_) hlt (by omega) (by rw [← hsl]; exact hc) (by omega)) ?_
        · obtain ⟨hj, rfl⟩ := List.getElem?_eq_some_iff.mp e
          exact (hxs j hj).2
        · rintro e w' ⟨rfl, hbel⟩
          refine ⟨_, rfl, Γ, Gam.le_refl _, ?_, hW.grow hbel⟩
          refine .str _ _ ?_
          rw [hjoin]; rfl
    · cases hx'
  · obtain ⟨x, y, rfl, hx1, hy1⟩ := args_two hs hr
    cases hx1
    cases hy1 with | str bs _ hbs =>
    cases hx'
    refine ⟨_, w, callFunc_enter hf hn hb _ w, ?_⟩
    refine Calls.mono (h0 _ 0 bs w) ?_
    rintro e w' ⟨rfl, rfl⟩
    exact ⟨_, rfl, Γ, Gam.le_refl _, .str ⟨#[]⟩ _ rfl, hW⟩
  · cases hx'
end
end Go.Gh

