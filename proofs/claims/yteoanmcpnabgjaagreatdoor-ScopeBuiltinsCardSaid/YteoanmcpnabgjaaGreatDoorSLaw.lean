/-
  ScopeBuiltins: the ghost machine reckons the law; what it finds the program does.
  No claim is proved here.
-/
import Derived.Test.YteoanmcpnabgjaaGreatDoorGhostD
import Derived.Test.YteoanmcpnabgjaaGreatDoorSGhost
import Derived.Test.YteoanmcpnabgjaaGreatDoorSFindRule
import Derived.Test.YteoanmcpnabgjaaGreatDoorSShelf
import Derived.Test.YteoanmcpnabgjaaGreatDoorSBuiltin
namespace Go.Gh.S
open Go.Gh Go.Proofs
open Go.RowKit (Below)
set_option maxRecDepth 100000

def extStr : Ext := fun args h => match args with | [.str l] => some (builtinG l, h) | _ => none
def extTrue : Ext := fun args h => match args with | [] => some (.bool true, h) | _ => none
noncomputable def ext0 (b : Ext) : Nat → Option Ext := fun n => bif Nat.beq n 62 then some extIndex else bif Nat.beq n 22 then some extFind else bif Nat.beq n 79 then some extIndexByte else bif Nat.beq n 5 then some b else bif Nat.beq n 6 then some b else none
noncomputable def ext1 (b : Ext) : Nat → Option Ext := fun n => bif Nat.beq n 7 then some extTrue else ext0 b n
noncomputable def E0 : GEnv := { fn := fnTree.find, ext := ext0 extStr, meth := fun _ _ => none }
noncomputable def E1 (K : GVal) : GEnv := { fn := fnTree.find, ext := ext1 (extBuiltin K), meth := fun _ _ => none }
def answers : List GVal := [bres 13 2 true, bres 14 2 true, bres 17 1 true, bres 18 1 true, bres 19 1 true, bres 20 1 true, bres 0 0 false]

theorem awake_true : isTrue (gCall E0 1000 7 [] .empty) = true := by decide +kernel

theorem law_true : answers.all (fun K => isTrue (gCall (E1 K) 1000 3 [.any 1] .empty)) = true := by decide +kernel

/-- What is told of the unknown: MaxLen is an int, the law's text is s. -/
def unkS (s : ByteArray) : Nat → Value → Prop := fun i x => match i with | 0 => ∃ m, x = .int .i64 m | 1 => x = .string s | _ => False

theorem mixed : Tryz.prog.follows .mixedOrders = true := by kernel_rfl
theorem ints_all (u : Nat → Value → Prop) : (cfg u [] []).ints.all (intOk Tryz.prog) = true := by kernel_rfl

theorem bare (u : Nat → Value → Prop) : GlobBare Tryz.prog (cfg u [] []) := globBare_of fun g v e => by
  have e' : (bif Nat.beq g 0 then some (GVal.vptr (.any 0) 0) else none) = some v := e
  cases hb : Nat.beq g 0 with
  | true => rw [hb] at e'; cases e'; exact ⟨_, rfl, fun u hu => by simp [GVal.cells] at hu; subst hu; exact plain_any 0⟩
  | false => rw [hb] at e'; cases e'

theorem extStr_ok {C : GCfg} {f : FuncId} {K : GVal} (h : ExtFor Tryz.prog C f (extBuiltin K)) : ExtFor Tryz.prog C f extStr := by
  intro args gargs base W0 Γ gh w r hC hs hr hW hx
  refine h args gargs base W0 Γ gh w r hC hs hr hW ?_
  unfold extStr at hx
  split at hx
  · exact hx
  · cases hx

theorem ext0_ok (s : ByteArray) (b : Ext) (h5 : ExtFor Tryz.prog (cfg (unkS s) [] []) 5 b) (h6 : ExtFor Tryz.prog (cfg (unkS s) [] []) 6 b) : ∀ f x, ext0 b f = some x → ExtFor Tryz.prog (cfg (unkS s) [] []) f x := by
  intro f x e
  unfold ext0 at e
  cases h1 : Nat.beq f 62 with
  | true =>
    rw [h1] at e; cases e; cases Nat.eq_of_beq_eq_true h1
    exact extIndex_ok (g := 0) (i := 0) Tryz.func62 (by kernel_rfl) rfl rfl (fun x hx => hx) fun s sub m w hs hm => Tryz.strings_Index s sub m w hs hm
  | false =>
  rw [h1] at e
  cases h2 : Nat.beq f 22 with
  | true => rw [h2] at e; cases e; cases Nat.eq_of_beq_eq_true h2; exact extFind_ok
  | false =>
  rw [h2] at e
  cases h3 : Nat.beq f 79 with
  | true =>
    rw [h3] at e; cases e; cases Nat.eq_of_beq_eq_true h3
    exact extIndexByte_ok Tryz.func79 (by kernel_rfl) rfl rfl rfl
  | false =>
  rw [h3] at e
  cases h4 : Nat.beq f 5 with
  | true => rw [h4] at e; cases e; cases Nat.eq_of_beq_eq_true h4; exact h5
  | false =>
  rw [h4] at e
  cases h6' : Nat.beq f 6 with
  | true => rw [h6'] at e; cases e; cases Nat.eq_of_beq_eq_true h6'; exact h6
  | false => rw [h6'] at e; cases e

theorem b5 (s : ByteArray) : ExtFor Tryz.prog (cfg (unkS s) [] []) 5 (extBuiltin (builtinG (bts s))) := extBuiltin_ok Tryz.func5 (by kernel_rfl) rfl s (fun _ hx => hx) builtin_calls
theorem b6 (s : ByteArray) : ExtFor Tryz.prog (cfg (unkS s) [] []) 6 (extBuiltin (builtinG (bts s))) := extBuiltin_ok Tryz.func6 (by kernel_rfl) rfl s (fun _ hx => hx) builtinR_calls
theorem fits0 (s : ByteArray) : Fits Tryz.prog (cfg (unkS s) [] []) E0 := ⟨envFn _ _ rfl, ext0_ok s extStr (extStr_ok (b5 s)) (extStr_ok (b6 s)), (fun _ _ _ e => by cases e), mixed⟩

theorem awake_ok (s : ByteArray) : ExtFor Tryz.prog (cfg (unkS s) [] []) 7 extTrue := closed_rule (sound (fits0 s) 1000) (bare _) fun gargs gh r e => by
  unfold extTrue at e
  split at e
  · cases e
    obtain ⟨h', he⟩ := isTrue_spec awake_true
    exact ⟨rfl, plain_bool _, fun v hv => (nomatch hv), h', he⟩
  · cases e

theorem fits1 (s : ByteArray) : Fits Tryz.prog (cfg (unkS s) [] []) (E1 (builtinG (bts s))) := ⟨envFn _ _ rfl, fun f x e => by
  have e' : (bif Nat.beq f 7 then some extTrue else ext0 (extBuiltin (builtinG (bts s))) f) = some x := e
  cases h : Nat.beq f 7 with
  | true => rw [h] at e'; cases e'; cases Nat.eq_of_beq_eq_true h; exact awake_ok s
  | false => rw [h] at e'; exact ext0_ok s _ (b5 s) (b6 s) f x e', (fun _ _ _ e => by cases e), mixed⟩

/-- The law's call, in any world in which MaxLen is an int. -/
theorem scopeBuiltins_calls (s : ByteArray) (m : Int) (w : World) (hm : w.cell? ⟨0, 0, none⟩ = some (.int .i64 m)) :
    Calls Tryz.prog 3 #[.string s] w fun e w' => e = .returned (.bool true) ∧ Below w.heap.size w w' := by
  let Γ : Gam := ⟨fun _ => none, fun _ => none, fun r o => if r = 0 ∧ o = 0 then some (.int .i64 m) else none, fun i => match i with | 0 => some (.int .i64 m) | 1 => some (.string s) | _ => none⟩
  have hC : CfgOK Tryz.prog (cfg (unkS s) [] []) Γ := by
    refine ⟨fun g v e => ?_, ints_ok (ints_all _), fun i x e => ?_⟩
    · have e' : (bif Nat.beq g 0 then some (GVal.vptr (.any 0) 0) else none) = some v := e
      cases hb : Nat.beq g 0 with
      | true =>
        rw [hb] at e'; cases e'; cases Nat.eq_of_beq_eq_true hb
        exact vptr_any (x := .int .i64 m) rfl rfl rfl rfl (fun b h => by cases h)
      | false => rw [hb] at e'; cases e'
    · match i, e with
      | 0, e => cases e; exact ⟨m, rfl⟩
      | 1, e => cases e; rfl
  refine law_calls (sound (fits1 s) 1000) Tryz.func3 (by kernel_rfl) rfl w Γ hC (fun _ => rfl) (fun _ => rfl) ?_ #[.string s] [.any 1] rfl ?_ ?_
  · intro r o v e
    have e' : (if r = 0 ∧ o = 0 then some (Value.int .i64 m) else none) = some v := e
    split at e'
    · rename_i h; obtain ⟨rfl, rfl⟩ := h; cases e'; exact hm
    · cases e'
  · intro i hi
    match i, hi with
    | 0, _ => exact .any 1 (.string s) rfl rfl rfl (fun b h => by cases h)
  · exact List.all_eq_true.mp law_true _ (builtinG_cases (bts s))
end Go.Gh.S
