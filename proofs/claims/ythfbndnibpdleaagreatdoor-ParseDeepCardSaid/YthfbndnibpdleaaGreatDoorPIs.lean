/-
  The rule for the parser's (*parser).is: what it answers, off the parser's cells.
  No claim is proved here.
-/
import Derived.Test.YthfbndnibpdleaaGreatDoorPTable
import Derived.Test.YthfbndnibpdleaaGreatDoorGhostD
namespace Go.Gh.P
open Go.Gh Go.Proofs
set_option maxRecDepth 100000
noncomputable section
def isTok (x : Option GVal) (kd : Int) (tx : List Nat) : Option Bool :=
  match x with
  | some (.agg [.int .i64 k, .str t, _, _]) => some (@Bool.rec (fun _ => Bool) false (natsSame t tx) (ieq k kd))
  | _ => none
def isCells (toks : List GVal) (i : Nat) (e kd : Int) (tx : List Nat) : Option Bool :=
  bif ieq e (.ofNat 0) then (bif Nat.blt i toks.length then isTok (nth toks i) kd tx else some false) else some false
def boolR (x : Option Bool) (h : GHeap) : Option (GVal × GHeap) := match x with | some b => some (.bool b, h) | none => none
def isB (g : Option GBlock) (kd : Int) (tx : List Nat) (h : GHeap) : Option (GVal × GHeap) :=
  match g with
  | some (.cells [.vsl toks _, .int .i64 (.ofNat i), _, _, _, .int .i64 e] _ _) => boolR (isCells toks i e kd tx) h
  | _ => none
def isX : Ext := fun args h =>
  match args with
  | [.ptr b 0, .int .i64 kd, .str tx] => isB (h.get b) kd tx h
  | _ => none
end

theorem is_T {args : List GVal} {h : GHeap} {r : GVal × GHeap} (hx : isX args h = some r) (E : GEnv) (call : CallF) (n : Nat) : T93 E call n args h = some r := by
  unfold isX at hx
  split at hx
  · rename_i b kd tx
    unfold isB at hx
    split at hx
    · rename_i toks tok i c2 c3 c4 e lo gr hg
      have l5 : loadV h 1 false (.ptr b 5) = some (.int .i64 e) := (load_ptr hg).trans rfl
      have l1 : loadV h 1 false (.ptr b 1) = some (.int .i64 (.ofNat i)) := (load_ptr hg).trans rfl
      have l0 : loadV h 1 false (.ptr b 0) = some (.vsl toks tok) := (load_ptr hg).trans rfl
      have key : ∀ q, isCells toks i e kd tx = some q → T93 E call n [.ptr b 0, .int .i64 kd, .str tx] h = some (.bool q, h) := by
        intro q hq
        unfold isCells at hq
        simp only [T93, T93c6, uncons_cons, unnil_nil, nilChk_ptr, bnd_val, fieldA_ptr, Nat.zero_add, l5, eql_i64]
        cases he : ieq e (.ofNat 0) with
        | false =>
          rw [he] at hq; cases hq
          simp only [gIf_ft, sJoin_normal, uncons_cons, unnil_nil, pickB_false, bnd_val, T93c5, T93c4, sEnd_ret]
        | true =>
          rw [he] at hq
          simp only [cond_true] at hq
          simp only [gIf_tt, T93c1, fieldA_ptr, Nat.zero_add, bnd_val, l1, nilChk_ptr, l0, len_vsl, lss_nat, sJoin_normal, uncons_cons, unnil_nil, pickB_true]
          cases hi : Nat.blt i toks.length with
          | false =>
            rw [hi] at hq; cases hq
            simp only [T93c5, gIf_ft, sJoin_normal, uncons_cons, unnil_nil, pickB_false, bnd_val, T93c4, sEnd_ret]
          | true =>
            rw [hi] at hq
            simp only [cond_true] at hq
            unfold isTok at hq
            split at hq
            · rename_i k t c d hn
              cases hq
              have hix : ixS 4 (.vsl toks tok) (.int .i64 (.ofNat i)) = some (.vptr (.agg [.int .i64 k, .str t, c, d]) 0) := ixS_vsl hi hn rfl
              have v0 : ∀ o, loadV h 1 false (.vptr (.agg [.int .i64 k, .str t, c, d]) o) = nth [.int .i64 k, .str t, c, d] o := fun o => rfl
              have n0 : nth [GVal.int .i64 k, .str t, c, d] 0 = some (.int .i64 k) := rfl
              have n1 : nth [GVal.int .i64 k, .str t, c, d] 1 = some (.str t) := rfl
              simp only [T93c5, T93c2, gIf_tt, nilChk_ptr, fieldA_ptr, fieldA_vptr, Nat.zero_add, bnd_val, l1, l0, hix, v0, n0, eql_i64, sJoin_normal, uncons_cons, unnil_nil, pickB_true]
              cases hk : ieq k kd with
              | false => simp only [T93c4, gIf_ft, sJoin_normal, uncons_cons, unnil_nil, pickB_false, bnd_val, sEnd_ret]
              | true => simp only [T93c4, T93c3, gIf_tt, nilChk_ptr, fieldA_ptr, fieldA_vptr, Nat.zero_add, bnd_val, l1, l0, hix, v0, n1, eql_str, sJoin_normal, uncons_cons, unnil_nil, pickB_true, sEnd_ret]
            · cases hq
      unfold boolR at hx
      split at hx
      · rename_i q hq; cases hx; exact key q hq
      · cases hx
    · cases hx
  · cases hx
theorem is_ok : ExtFor Tryz.prog (cfg unkP [] []) 93 isX := leaf_rule (e93 unkP) meth0 mixed fun _ _ _ h => is_T h _ _ _
/-! ### The table with all these rules -/
noncomputable def ext2 : Nat → Ext := fun n => bif Nat.beq n 93 then isX else ext1 n
noncomputable def rules2 : Nat → TFun := fun n => ruleT (ext2 n)
theorem rules2_ok : ∀ f ∈ [22, 90, 91, 93, 160, 184], TOK Tryz.prog (cfg unkP [] []) f (rules2 f) := by
  intro f hf
  simp only [List.mem_cons, List.not_mem_nil, or_false] at hf
  rcases hf with rfl | rfl | rfl | rfl | rfl | rfl
  · exact .inl ⟨_, rfl, jn_ok⟩
  · exact .inl ⟨_, rfl, skip_ok⟩
  · exact .inl ⟨_, rfl, tok_ok⟩
  · exact .inl ⟨_, rfl, is_ok⟩
  · exact .inl ⟨_, rfl, ix_ok⟩
  · exact .inl ⟨_, rfl, ib_ok⟩
theorem call2_ok (n : Nat) : CallOK Tryz.prog (cfg unkP [] []) (tCall EE (tbl2 rules2) n) := tCall_sound (tbl2_all unkP rules2 rules2_ok) meth0 mixed n
theorem awake_true : isTrue (tCall EE (tbl2 rules2) 1000 9 [] .empty) = true := by decide +kernel
def extTrue : Ext := fun args h => match args with | [] => some (.bool true, h) | _ => none
theorem awake_ok : ExtFor Tryz.prog (cfg unkP [] []) 9 extTrue := closed_rule (call2_ok 1000) (bare _) fun gargs gh r e => by
  unfold extTrue at e
  split at e
  · cases e
    obtain ⟨h', he⟩ := isTrue_spec awake_true
    exact ⟨rfl, plain_bool _, fun v hv => (nomatch hv), h', he⟩
  · cases e
noncomputable def ext3 : Nat → Ext := fun n => bif Nat.beq n 9 then extTrue else ext2 n
noncomputable def rules3 : Nat → TFun := fun n => ruleT (ext3 n)
theorem rules3_ok : ∀ f ∈ [9, 22, 90, 91, 93, 160, 184], TOK Tryz.prog (cfg unkP [] []) f (rules3 f) := by
  intro f hf
  simp only [List.mem_cons, List.not_mem_nil, or_false] at hf
  rcases hf with rfl | rfl | rfl | rfl | rfl | rfl | rfl
  · exact .inl ⟨_, rfl, awake_ok⟩
  · exact .inl ⟨_, rfl, jn_ok⟩
  · exact .inl ⟨_, rfl, skip_ok⟩
  · exact .inl ⟨_, rfl, tok_ok⟩
  · exact .inl ⟨_, rfl, is_ok⟩
  · exact .inl ⟨_, rfl, ix_ok⟩
  · exact .inl ⟨_, rfl, ib_ok⟩
noncomputable def callP : CallF := tCall EE (tbl3 rules3) 1000
theorem callP_ok : CallOK Tryz.prog (cfg unkP [] []) callP := tCall_sound (tbl3_all unkP rules3 rules3_ok) meth0 mixed 1000
/-- ParseDeep at two numbers; ParseBlocks. -/
noncomputable def deep (n k : Nat) : Bool := isTrue (callP 4 [i64 n, i64 k] .empty)
noncomputable def blocks (n : Nat) (c : Bool) : Bool := isTrue (callP 7 [i64 n, .bool c] .empty)
end Go.Gh.P
