/-
  What is built in: scope.Builtin and the document's own, at any name.
  No claim is proved here.
-/
import Derived.Shelf.Abstract
import Derived.WalkKit
import Derived.OwnWalkIn
import Derived.TacticsInMore
import Derived.Test.YteoanmcpnabgjaaGreatDoorGhostD
import Derived.Test.YteoanmcpnabgjaaGreatDoorChecked
namespace Go.Proofs
open Go.RowKit Go.Shelf Go.Gh
attribute [local go_sem] Oper.semAt_some

def bres (a b : Int) (c : Bool) : GVal := .tuple [.int .i64 a, .int .i64 b, .bool c]
def builtinG (l : List Nat) : GVal :=
  bif natsSame l [112, 117, 115, 104] then bres 13 2 true
  else bif natsSame l [99, 120] then bres 14 2 true
  else bif natsSame l [108, 101, 110] then bres 17 1 true
  else bif natsSame l [114, 101] then bres 18 1 true
  else bif natsSame l [105, 109] then bres 19 1 true
  else bif natsSame l [99, 111, 110, 106] then bres 20 1 true
  else bres 0 0 false

theorem vrel_bres (Γ : Gam) (a b : Int) (c : Bool) : VRel Γ (.tuple #[.int .i64 a, .int .i64 b, .bool c]) (bres a b c) := .tuple _ _ rfl (fun i hi => by
  match i, hi with
  | 0, _ => exact .int _ _
  | 1, _ => exact .int _ _
  | 2, _ => exact .bool _)

theorem same_lit (s : ByteArray) (l : List UInt8) (n : List Nat) (h : n = l.map (·.toNat)) : natsSame (bts s) n = (s.toList == l) := by
  have e : n = bts ⟨l.toArray⟩ := h.trans rfl
  rw [e, natsSame_bts]
  congr 1
  exact ByteArray.toList_eq ⟨l.toArray⟩

theorem builtinG_eq (s : ByteArray) : builtinG (bts s) =
    (bif s.toList == [112, 117, 115, 104] then bres 13 2 true
    else bif s.toList == [99, 120] then bres 14 2 true
    else bif s.toList == [108, 101, 110] then bres 17 1 true
    else bif s.toList == [114, 101] then bres 18 1 true
    else bif s.toList == [105, 109] then bres 19 1 true
    else bif s.toList == [99, 111, 110, 106] then bres 20 1 true
    else bres 0 0 false) := by
  unfold builtinG
  rw [same_lit s [112, 117, 115, 104] [112, 117, 115, 104] rfl, same_lit s [99, 120] [99, 120] rfl, same_lit s [108, 101, 110] [108, 101, 110] rfl, same_lit s [114, 101] [114, 101] rfl, same_lit s [105, 109] [105, 109] rfl, same_lit s [99, 111, 110, 106] [99, 111, 110, 106] rfl]

set_option maxRecDepth 100000 in
set_option maxHeartbeats 2000000 in
theorem Tryz.builtin_in (F : Fence) (n : Nat) (hf : F.fn 5) (hro : F.round = none) (s : ByteArray) (w : World) :
    CallsIn F n Tryz.prog 5 #[.string s] w fun e w' => (∃ v, e = .returned v ∧ ∀ Γ, VRel Γ v (builtinG (bts s))) ∧ w' = w := by
  refine callsIn_of_wp Tryz.func5 rfl hf ?_ hro
  simp only [Tryz.ntmps5, List.size_toArray, List.length_cons, List.length_nil, Nat.reduceAdd, Nat.reduceSub, Array.replicate_succ, Array.replicate_zero, List.push_toArray, List.append_toArray, List.nil_append, List.cons_append]
  gi_wp2
  iterate 7
    next =>
      rw [builtinG_eq]
      simp only [*, cond_true, cond_false]
      refine bodyPost_ret (results_tmp3 rfl _ _ _) rfl ?_
      exact ⟨⟨_, rfl, fun Γ => vrel_bres Γ _ _ _⟩, rfl⟩

set_option maxRecDepth 100000 in
set_option maxHeartbeats 2000000 in
theorem Tryz.builtinR_in (F : Fence) (n : Nat) (hf : F.fn 6) (hro : F.round = none) (s : ByteArray) (w : World) :
    CallsIn F n Tryz.prog 6 #[.string s] w fun e w' => (∃ v, e = .returned v ∧ ∀ Γ, VRel Γ v (builtinG (bts s))) ∧ w' = w := by
  refine callsIn_of_wp Tryz.func6 rfl hf ?_ hro
  simp only [Tryz.ntmps6, List.size_toArray, List.length_cons, List.length_nil, Nat.reduceAdd, Nat.reduceSub, Array.replicate_succ, Array.replicate_zero, List.push_toArray, List.append_toArray, List.nil_append, List.cons_append]
  gi_wp2
  iterate 7
    next =>
      rw [builtinG_eq]
      simp only [*, cond_true, cond_false]
      refine bodyPost_ret (results_tmp3 rfl _ _ _) rfl ?_
      exact ⟨⟨_, rfl, fun Γ => vrel_bres Γ _ _ _⟩, rfl⟩

/-- The rule: at a name that is known, and at one of which this alone is known. -/
def extBuiltin (v : GVal) : Ext := fun args h => match args with | [.str l] => some (builtinG l, h) | [.any 1] => some (v, h) | _ => none

theorem args_one {Γ : Gam} {args : Array Value} {a : GVal} (hs : args.size = [a].length) (hr : ∀ i (hi : i < [a].length), VRel Γ (args.getD i undef) [a][i]) : ∃ x, args = #[x] ∧ VRel Γ x a := by
  obtain ⟨l⟩ := args
  match l, hs with
  | [x], _ => exact ⟨x, rfl, by simpa using hr 0 (by simp)⟩

theorem extBuiltin_ok {C : GCfg} {f : FuncId} {fn : Func} (hf : Tryz.prog.funcs[f]? = some fn) (hn : (fn.name == "runtime.NumGoroutine") = false) (hb : fn.body.isNone = false) (s : ByteArray) (hu : ∀ x, C.unk 1 x → x = .string s)
    (hc : ∀ (s : ByteArray) (w : World), Calls Tryz.prog f #[.string s] w fun e w' => (∃ v, e = .returned v ∧ ∀ Γ, VRel Γ v (builtinG (bts s))) ∧ w' = w) : ExtFor Tryz.prog C f (extBuiltin (builtinG (bts s))) := by
  intro args gargs base W0 Γ gh w r hC hs hr hW hx
  unfold extBuiltin at hx
  split at hx
  · rename_i l
    cases hx
    obtain ⟨x, rfl, hx1⟩ := args_one hs hr
    cases hx1 with | str b _ hb' =>
    refine ⟨_, w, callFunc_enter hf hn hb _ w, ?_⟩
    refine Calls.mono (hc b w) ?_
    rintro e w' ⟨⟨v, rfl, hv⟩, rfl⟩
    refine ⟨_, rfl, Γ, Gam.le_refl _, ?_, hW⟩
    have := hv Γ
    rw [show bts b = l from hb'] at this
    exact this
  · cases hx
    obtain ⟨x, rfl, hx1⟩ := args_one hs hr
    cases hx1 with | any _ _ hu' _ _ _ =>
    have := hu x (hC.2.2 1 x hu')
    subst this
    refine ⟨_, w, callFunc_enter hf hn hb _ w, ?_⟩
    refine Calls.mono (hc s w) ?_
    rintro e w' ⟨⟨v, rfl, hv⟩, rfl⟩
    exact ⟨_, rfl, Γ, Gam.le_refl _, hv Γ, hW⟩
  · cases hx
theorem builtin_calls (s : ByteArray) (w : World) : Calls Tryz.prog 5 #[.string s] w fun e w' => (∃ v, e = .returned v ∧ ∀ Γ, VRel Γ v (builtinG (bts s))) ∧ w' = w := callsIn_wide.1 (Tryz.builtin_in Fence.wide 1 trivial rfl s w)
theorem builtinR_calls (s : ByteArray) (w : World) : Calls Tryz.prog 6 #[.string s] w fun e w' => (∃ v, e = .returned v ∧ ∀ Γ, VRel Γ v (builtinG (bts s))) ∧ w' = w := callsIn_wide.1 (Tryz.builtinR_in Fence.wide 1 trivial rfl s w)
/-- Seven answers there are. -/
theorem builtinG_cases (l : List Nat) : builtinG l ∈ [bres 13 2 true, bres 14 2 true, bres 17 1 true, bres 18 1 true, bres 19 1 true, bres 20 1 true, bres 0 0 false] := by
  unfold builtinG
  generalize natsSame l [112, 117, 115, 104] = a
  generalize natsSame l [99, 120] = b
  generalize natsSame l [108, 101, 110] = c
  generalize natsSame l [114, 101] = d
  generalize natsSame l [105, 109] = e
  generalize natsSame l [99, 111, 110, 106] = f
  cases a
  case true => exact List.mem_cons_self ..
  cases b
  case true => exact List.mem_cons_of_mem _ (List.mem_cons_self ..)
  cases c
  case true => exact List.mem_cons_of_mem _ (List.mem_cons_of_mem _ (List.mem_cons_self ..))
  cases d
  case true => exact List.mem_cons_of_mem _ (List.mem_cons_of_mem _ (List.mem_cons_of_mem _ (List.mem_cons_self ..)))
  cases e
  case true => exact List.mem_cons_of_mem _ (List.mem_cons_of_mem _ (List.mem_cons_of_mem _ (List.mem_cons_of_mem _ (List.mem_cons_self ..))))
  cases f
  case true => exact List.mem_cons_of_mem _ (List.mem_cons_of_mem _ (List.mem_cons_of_mem _ (List.mem_cons_of_mem _ (List.mem_cons_of_mem _ (List.mem_cons_self ..)))))
  exact List.mem_cons_of_mem _ (List.mem_cons_of_mem _ (List.mem_cons_of_mem _ (List.mem_cons_of_mem _ (List.mem_cons_of_mem _ (List.mem_cons_of_mem _ (List.mem_cons_self ..))))))
end Go.Proofs
