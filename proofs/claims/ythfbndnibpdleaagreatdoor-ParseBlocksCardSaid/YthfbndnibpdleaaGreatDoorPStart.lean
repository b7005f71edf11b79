/-
  A law's call in any world in which MaxLen is an int.
  No claim is proved here.
-/
import Derived.Test.YthfbndnibpdleaaGreatDoorPIs
import Derived.Test.YthfbndnibpdleaaGreatDoorGhostE
namespace Go.Gh.P
open Go.Gh Go.Proofs
open Go.RowKit (Below)
set_option maxRecDepth 100000
/-- What the ghost finds true at arguments that hold no memory the program finds true. -/
theorem law_any {f : Nat} {fn : Func} (hf : Tryz.prog.funcs[f]? = some fn) (hn : (fn.name == "runtime.NumGoroutine") = false) (hb : fn.body.isNone = false) (args : Array Value) (gargs : List GVal) (hs : args.size = gargs.length)
    (hr : ∀ (Γ : Gam) i (hi : i < gargs.length), VRel Γ (args.getD i undef) gargs[i]) (h : isTrue (callP f gargs .empty) = true) (m : Int) (w : World) (hm : w.cell? ⟨0, 0, none⟩ = some (.int .i64 m)) :
    Calls Tryz.prog f args w fun e w' => e = .returned (.bool true) ∧ Below w.heap.size w w' := by
  let Γ : Gam := ⟨fun _ => none, fun _ => none, fun r o => if r = 0 ∧ o = 0 then some (.int .i64 m) else none, fun i => match i with | 0 => some (.int .i64 m) | _ => none⟩
  have hC : CfgOK Tryz.prog (cfg unkP [] []) Γ := by
    refine ⟨fun g v e => ?_, ints_ok (ints_all _), fun i x e => ?_⟩
    · have e' : (bif Nat.beq g 0 then some (GVal.vptr (.any 0) 0) else none) = some v := e
      cases hb : Nat.beq g 0 with
      | true =>
        rw [hb] at e'; cases e'; cases Nat.eq_of_beq_eq_true hb
        exact vptr_any (x := .int .i64 m) rfl rfl rfl rfl (fun b h => by cases h)
      | false => rw [hb] at e'; cases e'
    · match i, e with
      | 0, e => cases e; exact ⟨rfl, m, rfl⟩
  refine law_calls callP_ok hf hn hb w Γ hC (fun _ => rfl) (fun _ => rfl) ?_ args gargs hs (hr Γ) h
  intro r o v e
  have e' : (if r = 0 ∧ o = 0 then some (Value.int .i64 m) else none) = some v := e
  split at e'
  · rename_i h; obtain ⟨rfl, rfl⟩ := h; cases e'; exact hm
  · cases e'
end Go.Gh.P
