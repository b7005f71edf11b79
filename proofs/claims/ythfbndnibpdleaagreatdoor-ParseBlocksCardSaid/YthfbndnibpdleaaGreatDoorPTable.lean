/-
  The parser's table with lex.token and lex.skip known by rules.
  No claim is proved here.
-/
import Derived.Test.YthfbndnibpdleaaGreatDoorPDict
namespace Go.Gh.P
open Go.Gh Go.Proofs
set_option maxRecDepth 100000
noncomputable def ext1 : Nat → Ext := fun n => bif Nat.beq n 91 then dictX tokD tokE else bif Nat.beq n 90 then skipX else ext0 n
noncomputable def rules1 : Nat → TFun := fun n => ruleT (ext1 n)
theorem tok_ok : ExtFor Tryz.prog (cfg unkP [] []) 91 (dictX tokD tokE) := dictX_ok (call_ok 100) (bare _) (by decide +kernel) (by decide +kernel) (allL_mem tokD_all) (allL_mem tokE_all)
theorem skip_ok : ExtFor Tryz.prog (cfg unkP [] []) 90 skipX := skipX_ok (call_ok 100) (bare _) sk0 sk1 fun c h rest => skAll c h rest
theorem rules1_ok : ∀ f ∈ [22, 90, 91, 160, 184], TOK Tryz.prog (cfg unkP [] []) f (rules1 f) := by
  intro f hf
  simp only [List.mem_cons, List.not_mem_nil, or_false] at hf
  rcases hf with rfl | rfl | rfl | rfl | rfl
  · exact .inl ⟨_, rfl, jn_ok⟩
  · exact .inl ⟨_, rfl, skip_ok⟩
  · exact .inl ⟨_, rfl, tok_ok⟩
  · exact .inl ⟨_, rfl, ix_ok⟩
  · exact .inl ⟨_, rfl, ib_ok⟩
theorem call1_ok (n : Nat) : CallOK Tryz.prog (cfg unkP [] []) (tCall EE (tbl1 rules1) n) := tCall_sound (tbl1_all unkP rules1 rules1_ok) meth0 mixed n
end Go.Gh.P
