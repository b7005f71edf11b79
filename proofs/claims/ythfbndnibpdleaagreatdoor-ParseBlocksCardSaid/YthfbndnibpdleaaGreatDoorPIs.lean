/-
  The rule for the parser's (*parser).is: what it answers, off the parser's cells.
  No claim is proved here.
-/
import Derived.Test.YthfbndnibpdleaaGreatDoorPTable
import Derived.Test.YthfbndnibpdleaaGreatDoorGhostE
namespace Go.Gh.P
open Go.Gh Go.Proofs
set_option maxRecDepth 100000
noncomputable section
def isTok (v : GVal) (kd : Int) (tx : List Nat) : Option Bool :=
  onAgg v none fun l => uncons l fun a l => uncons l fun b l => uncons l fun _ l => uncons l fun _ l => unnil l (onInt a none fun ka k => onI64 ka none (onStr b none fun t => some (onIf (ieqF k kd) (natsSame t tx) false)))
def isCells (toks : List GVal) (i : Nat) (e kd : Int) (tx : List Nat) : Option Bool :=
  onIf (ieqF e (.ofNat 0)) (onSome (nth toks i) (some false) fun v => isTok v kd tx) (some false)
def isX : Ext := fun args h =>
  uncons args fun p args => uncons args fun kd args => uncons args fun tx args => unnil args (onPtr p none fun b o => onIf (Nat.beq o 0) (onInt kd none fun kk kd => onI64 kk none (onStr tx none fun tx =>
    onSome (h.get b) none fun blk => onCells blk none fun cells _ _ =>
      uncons cells fun c0 r => uncons r fun c1 r => uncons r fun _ r => uncons r fun _ r => uncons r fun _ r => uncons r fun c5 r => unnil r (
        onVsl c0 none fun toks _ => onInt c1 none fun k1 i => onI64 k1 none (onNat i none fun i => onInt c5 none fun k5 e => onI64 k5 none (onSome (isCells toks i e kd tx) none fun q => some (.bool q, h)))))) none)
end

theorem is_T {args : List GVal} {h : GHeap} {r : GVal × GHeap} (hx : isX args h = some r) (E : GEnv) (call : CallF) (n : Nat) : T93 E call n args h = some r := by
  obtain ⟨p, rest, rfl, hx1⟩ := uncons_some hx
  obtain ⟨kd, rest, rfl, hx2⟩ := uncons_some hx1
  obtain ⟨tx, rest, rfl, hx3⟩ := uncons_some hx2
  obtain ⟨rfl, hx4⟩ := unnil_some hx3
  obtain ⟨b, o, rfl, hx5⟩ := onPtr_some hx4
  obtain ⟨ho, hx6⟩ := onIf_some hx5
  obtain rfl : o = 0 := Nat.eq_of_beq_eq_true ho
  obtain ⟨kk, kd, rfl, hx7⟩ := onInt_some hx6
  obtain ⟨rfl, hx8⟩ := onI64_some hx7
  obtain ⟨tx, rfl, hx9⟩ := onStr_some hx8
  obtain ⟨blk, hg, hx10⟩ := onSome_some hx9
  obtain ⟨cells, lo, gr, rfl, hx11⟩ := onCells_some hx10
  obtain ⟨c0, cells, rfl, hx12⟩ := uncons_some hx11
  obtain ⟨c1, cells, rfl, hx13⟩ := uncons_some hx12
  obtain ⟨c2, cells, rfl, hx14⟩ := uncons_some hx13
  obtain ⟨c3, cells, rfl, hx15⟩ := uncons_some hx14
  obtain ⟨c4, cells, rfl, hx16⟩ := uncons_some hx15
  obtain ⟨c5, cells, rfl, hx17⟩ := uncons_some hx16
  obtain ⟨rfl, hx18⟩ := unnil_some hx17
  obtain ⟨toks, tok, rfl, hx19⟩ := onVsl_some hx18
  obtain ⟨k1, i, rfl, hx20⟩ := onInt_some hx19
  obtain ⟨rfl, hx21⟩ := onI64_some hx20
  obtain ⟨i, rfl, hx22⟩ := onNat_some hx21
  obtain ⟨k5, e, rfl, hx23⟩ := onInt_some hx22
  obtain ⟨rfl, hx24⟩ := onI64_some hx23
  obtain ⟨q, hq, hx25⟩ := onSome_some hx24
  cases hx25
  have l5 : loadF h 1 false (.ptr b 5) = some (.int .i64 e) := (load_ptr hg).trans rfl
  have l1 : loadF h 1 false (.ptr b 1) = some (.int .i64 (.ofNat i)) := (load_ptr hg).trans rfl
  have l0 : loadF h 1 false (.ptr b 0) = some (.vsl toks tok) := (load_ptr hg).trans rfl
  unfold isCells at hq
  rw [ieqF_eq] at hq
  simp only [T93, T93c6, uncons_cons, unnil_nil, nilChk_ptr, bnd_val, fieldA_ptr, Nat.zero_add, l5, eql_i64]
  cases he : ieq e (.ofNat 0) with
  | false =>
    rw [he] at hq; cases hq
    simp only [gIf_ft, sJoin_normal, uncons_cons, unnil_nil, pickB_false, bnd_val, T93c5, T93c4, sEnd_ret]
  | true =>
    rw [he] at hq
    have hq : onSome (nth toks i) (some false) (fun v => isTok v kd tx) = some q := hq
    simp only [gIf_tt, T93c1, fieldA_ptr, Nat.zero_add, bnd_val, l1, nilChk_ptr, l0, len_vsl, lss_nat, sJoin_normal, uncons_cons, unnil_nil, pickB_true]
    cases hn : nth toks i with
    | none =>
      rw [hn] at hq; cases hq
      have hi : Nat.blt i toks.length = false := by
        cases hb : Nat.blt i toks.length with
        | false => rfl
        | true =>
          have : i < toks.length := Nat.le_of_ble_eq_true hb
          rw [nth_eq] at hn
          simp at hn; omega
      rw [hi]
      simp only [T93c5, gIf_ft, sJoin_normal, uncons_cons, unnil_nil, pickB_false, bnd_val, T93c4, sEnd_ret]
    | some v =>
      rw [hn] at hq
      have hq : isTok v kd tx = some q := hq
      have hi : Nat.blt i toks.length = true := by
        cases hb : Nat.blt i toks.length with
        | true => rfl
        | false => rw [nth_none hb] at hn; cases hn
      obtain ⟨l, rfl, hq1⟩ := onAgg_some hq
      obtain ⟨a, l, rfl, hq2⟩ := uncons_some hq1
      obtain ⟨t, l, rfl, hq3⟩ := uncons_some hq2
      obtain ⟨c, l, rfl, hq4⟩ := uncons_some hq3
      obtain ⟨d, l, rfl, hq5⟩ := uncons_some hq4
      obtain ⟨rfl, hq6⟩ := unnil_some hq5
      obtain ⟨ka, k, rfl, hq7⟩ := onInt_some hq6
      obtain ⟨rfl, hq8⟩ := onI64_some hq7
      obtain ⟨t, rfl, hq9⟩ := onStr_some hq8
      cases hq9
      rw [ieqF_eq, hi]
      have hix : ixSF 4 (.vsl toks tok) (.int .i64 (.ofNat i)) = some (.vptr (.agg [.int .i64 k, .str t, c, d]) 0) := ixS_vsl hn rfl
      have v0 : loadF h 1 false (.vptr (.agg [.int .i64 k, .str t, c, d]) 0) = some (.int .i64 k) := rfl
      have v1 : loadF h 1 false (.vptr (.agg [.int .i64 k, .str t, c, d]) 1) = some (.str t) := rfl
      simp only [T93c5, T93c2, gIf_tt, nilChk_ptr, fieldA_ptr, fieldA_vptr, Nat.zero_add, bnd_val, l1, l0, hix, v0, eql_i64, sJoin_normal, uncons_cons, unnil_nil, pickB_true]
      cases hk : ieq k kd with
      | false => simp only [T93c4, gIf_ft, sJoin_normal, uncons_cons, unnil_nil, pickB_false, bnd_val, sEnd_ret]; rfl
      | true => simp only [T93c4, T93c3, gIf_tt, nilChk_ptr, fieldA_ptr, fieldA_vptr, Nat.zero_add, bnd_val, l1, l0, hix, v1, eql_str, sJoin_normal, uncons_cons, unnil_nil, pickB_true, sEnd_ret]; rfl
theorem is_ok : ExtFor Tryz.prog (cfg unkP [] []) 93 isX := leaf_rule (e93 unkP) meth0 mixed fun _ _ _ h => is_T h _ _ _
/-! ### The table with all these rules -/
noncomputable def ext2 : Nat → Ext := fun n => bif Nat.beq n 93 then isX else ext1 n
noncomputable def rules2 : Nat → TFun := fun n => ruleT (ext2 n)
theorem rules2_ok : ∀ f ∈ [22, 90, 91, 93, 160, 184], TOK Tryz.prog (cfg unkP [] []) f (rules2 f) := by
  intro f hf
  simp only [List.mem_cons, List.not_mem_nil, or_false] at hf
  rcases hf with rfl | rfl | rfl | rfl | rfl | rfl
  · exact .inl ⟨_, rfl, jn_ok⟩
  · exact .inl ⟨_, rfl, skip_ok⟩
  · exact .inl ⟨_, rfl, tok_ok⟩
  · exact .inl ⟨_, rfl, is_ok⟩
  · exact .inl ⟨_, rfl, ix_ok⟩
  · exact .inl ⟨_, rfl, ib_ok⟩
theorem call2_ok (n : Nat) : CallOK Tryz.prog (cfg unkP [] []) (tCall EE (tbl2 rules2) n) := tCall_sound (tbl2_all unkP rules2 rules2_ok) meth0 mixed n
theorem awake_true : isTrue (tCall EE (tbl2 rules2) 1000 9 [] .empty) = true := by decide +kernel
def extTrue : Ext := fun args h => match args with | [] => some (.bool true, h) | _ => none
theorem awake_ok : ExtFor Tryz.prog (cfg unkP [] []) 9 extTrue := closed_rule (call2_ok 1000) (bare _) fun gargs gh r e => by
  unfold extTrue at e
  split at e
  · cases e
    obtain ⟨h', he⟩ := isTrue_spec awake_true
    exact ⟨rfl, plain_bool _, fun v hv => (nomatch hv), h', he⟩
  · cases e
noncomputable def ext3 : Nat → Ext := fun n => bif Nat.beq n 9 then extTrue else ext2 n
noncomputable def rules3 : Nat → TFun := fun n => ruleT (ext3 n)
theorem rules3_ok : ∀ f ∈ [9, 22, 90, 91, 93, 160, 184], TOK Tryz.prog (cfg unkP [] []) f (rules3 f) := by
  intro f hf
  simp only [List.mem_cons, List.not_mem_nil, or_false] at hf
  rcases hf with rfl | rfl | rfl | rfl | rfl | rfl | rfl
  · exact .inl ⟨_, rfl, awake_ok⟩
  · exact .inl ⟨_, rfl, jn_ok⟩
  · exact .inl ⟨_, rfl, skip_ok⟩
  · exact .inl ⟨_, rfl, tok_ok⟩
  · exact .inl ⟨_, rfl, is_ok⟩
  · exact .inl ⟨_, rfl, ix_ok⟩
  · exact .inl ⟨_, rfl, ib_ok⟩
noncomputable def callP : CallF := tCall EE (tbl3 rules3) 1000
theorem callP_ok : CallOK Tryz.prog (cfg unkP [] []) callP := tCall_sound (tbl3_all unkP rules3 rules3_ok) meth0 mixed 1000
/-- ParseDeep at two numbers; ParseBlocks. -/
noncomputable def deep (n k : Nat) : Bool := isTrue (callP 4 [i64 n, i64 k] .empty)
noncomputable def blocks (n : Nat) (c : Bool) : Bool := isTrue (callP 7 [i64 n, .bool c] .empty)
end Go.Gh.P
