/-
  The rules that the table of the parser's laws begins with.
  No claim is proved here.
-/
import Derived.Test.YthfbndnibpdleaaGreatDoorGhostE
import Derived.Test.YthfbndnibpdleaaGreatDoorPSwB0
import Derived.Test.YthfbndnibpdleaaGreatDoorPShelf
namespace Go.Gh.P
open Go.Gh Go.Proofs
set_option maxRecDepth 100000
noncomputable def EE : GEnv := ⟨fun _ => none, fun _ => none, fun _ _ => none⟩
noncomputable def ext0 : Nat → Ext := fun n => bif Nat.beq n 160 then extIndex else bif Nat.beq n 184 then extIndexByte else extJoin
noncomputable def rules0 : Nat → TFun := fun n => ruleT (ext0 n)
/-- What is told of the unknown: MaxLen is an int. -/
def unkP : Nat → Value → Prop := fun i x => i = 0 ∧ ∃ m, x = .int .i64 m
theorem mixed : Tryz.prog.follows .mixedOrders = true := by kernel_rfl
theorem ints_all (u : Nat → Value → Prop) : (cfg u [] []).ints.all (intOk Tryz.prog) = true := by kernel_rfl
theorem bare (u : Nat → Value → Prop) : GlobBare Tryz.prog (cfg u [] []) := globBare_of fun g v e => by
  have e' : (bif Nat.beq g 0 then some (GVal.vptr (.any 0) 0) else none) = some v := e
  cases hb : Nat.beq g 0 with
  | true => rw [hb] at e'; cases e'; exact ⟨_, rfl, fun u hu => by simp [GVal.cells] at hu; subst hu; exact plain_any 0⟩
  | false => rw [hb] at e'; cases e'
theorem ix_ok : ExtFor Tryz.prog (cfg unkP [] []) 160 extIndex := extIndex_ok (g := 0) (i := 0) Tryz.func160 (by kernel_rfl) rfl rfl (fun x hx => hx.2) fun s sub m w hs hm => Tryz.strings_Index s sub m w hs hm
theorem ib_ok : ExtFor Tryz.prog (cfg unkP [] []) 184 extIndexByte := extIndexByte_ok Tryz.func184 (by kernel_rfl) rfl rfl rfl
theorem jn_ok : ExtFor Tryz.prog (cfg unkP [] []) 22 extJoin := extJoin_ok Tryz.func22 (by kernel_rfl) rfl Tryz.strings_Join_none Tryz.strings_Join
theorem rules0_ok : ∀ f ∈ [22, 160, 184], TOK Tryz.prog (cfg unkP [] []) f (rules0 f) := by
  intro f hf
  simp only [List.mem_cons, List.not_mem_nil, or_false] at hf
  rcases hf with rfl | rfl | rfl
  · exact .inl ⟨_, rfl, jn_ok⟩
  · exact .inl ⟨_, rfl, ix_ok⟩
  · exact .inl ⟨_, rfl, ib_ok⟩
theorem meth0 : MethOK Tryz.prog (cfg unkP [] []) EE := fun _ _ _ e => by cases e
theorem call_ok (n : Nat) : CallOK Tryz.prog (cfg unkP [] []) (tCall EE (tbl rules0) n) := tCall_sound (tbl_all unkP rules0 rules0_ok) meth0 mixed n
end Go.Gh.P
