/-
  Rules for lex.token at the words that the laws use, and for lex.skip: written by a program.
  No claim is proved here.
-/
import Derived.Test.YthfbndnibpdleaaGreatDoorGhostE
import Derived.Test.YthfbndnibpdleaaGreatDoorPRules
namespace Go.Gh.P
open Go.Gh Go.Proofs
set_option maxRecDepth 100000
def AllL {α : Type} (p : α → Prop) : List α → Prop
  | [] => True
  | a :: r => p a ∧ AllL p r
theorem allL_mem {α : Type} {p : α → Prop} : ∀ {l : List α}, AllL p l → ∀ a ∈ l, p a := by
  intro l
  induction l with
  | nil => intro _ a ha; cases ha
  | cons x l ih =>
    intro h a ha
    rcases List.mem_cons.mp ha with rfl | ha
    · exact h.1
    · exact ih h.2 a ha
noncomputable def call0 : CallF := tCall EE (tbl rules0) 100
theorem tk0 (rest : List Nat) : fstOf (call0 91 [.str ([40, 32] ++ rest)] .empty) = some (.tuple [.agg [.int .i64 (.ofNat 6), .str [40], .int .i64 (.ofNat 0), .int .i64 (.ofNat 0)], .int .i64 (.ofNat 1)]) := by kernel_rfl
theorem te0 : fstOf (call0 91 [.str [40]] .empty) = some (.tuple [.agg [.int .i64 (.ofNat 6), .str [40], .int .i64 (.ofNat 0), .int .i64 (.ofNat 0)], .int .i64 (.ofNat 1)]) := by kernel_rfl
theorem tk1 (rest : List Nat) : fstOf (call0 91 [.str ([41, 32] ++ rest)] .empty) = some (.tuple [.agg [.int .i64 (.ofNat 6), .str [41], .int .i64 (.ofNat 0), .int .i64 (.ofNat 0)], .int .i64 (.ofNat 1)]) := by kernel_rfl
theorem te1 : fstOf (call0 91 [.str [41]] .empty) = some (.tuple [.agg [.int .i64 (.ofNat 6), .str [41], .int .i64 (.ofNat 0), .int .i64 (.ofNat 0)], .int .i64 (.ofNat 1)]) := by kernel_rfl
theorem tk2 (rest : List Nat) : fstOf (call0 91 [.str ([91, 32] ++ rest)] .empty) = some (.tuple [.agg [.int .i64 (.ofNat 6), .str [91], .int .i64 (.ofNat 0), .int .i64 (.ofNat 0)], .int .i64 (.ofNat 1)]) := by kernel_rfl
theorem te2 : fstOf (call0 91 [.str [91]] .empty) = some (.tuple [.agg [.int .i64 (.ofNat 6), .str [91], .int .i64 (.ofNat 0), .int .i64 (.ofNat 0)], .int .i64 (.ofNat 1)]) := by kernel_rfl
theorem tk3 (rest : List Nat) : fstOf (call0 91 [.str ([93, 32] ++ rest)] .empty) = some (.tuple [.agg [.int .i64 (.ofNat 6), .str [93], .int .i64 (.ofNat 0), .int .i64 (.ofNat 0)], .int .i64 (.ofNat 1)]) := by kernel_rfl
theorem te3 : fstOf (call0 91 [.str [93]] .empty) = some (.tuple [.agg [.int .i64 (.ofNat 6), .str [93], .int .i64 (.ofNat 0), .int .i64 (.ofNat 0)], .int .i64 (.ofNat 1)]) := by kernel_rfl
theorem tk4 (rest : List Nat) : fstOf (call0 91 [.str ([123, 32] ++ rest)] .empty) = some (.tuple [.agg [.int .i64 (.ofNat 6), .str [123], .int .i64 (.ofNat 0), .int .i64 (.ofNat 0)], .int .i64 (.ofNat 1)]) := by kernel_rfl
theorem te4 : fstOf (call0 91 [.str [123]] .empty) = some (.tuple [.agg [.int .i64 (.ofNat 6), .str [123], .int .i64 (.ofNat 0), .int .i64 (.ofNat 0)], .int .i64 (.ofNat 1)]) := by kernel_rfl
theorem tk5 (rest : List Nat) : fstOf (call0 91 [.str ([125, 32] ++ rest)] .empty) = some (.tuple [.agg [.int .i64 (.ofNat 6), .str [125], .int .i64 (.ofNat 0), .int .i64 (.ofNat 0)], .int .i64 (.ofNat 1)]) := by kernel_rfl
theorem te5 : fstOf (call0 91 [.str [125]] .empty) = some (.tuple [.agg [.int .i64 (.ofNat 6), .str [125], .int .i64 (.ofNat 0), .int .i64 (.ofNat 0)], .int .i64 (.ofNat 1)]) := by kernel_rfl
theorem tk6 (rest : List Nat) : fstOf (call0 91 [.str ([97, 32] ++ rest)] .empty) = some (.tuple [.agg [.int .i64 (.ofNat 1), .str [97], .int .i64 (.ofNat 0), .int .i64 (.ofNat 0)], .int .i64 (.ofNat 1)]) := by kernel_rfl
theorem te6 : fstOf (call0 91 [.str [97]] .empty) = some (.tuple [.agg [.int .i64 (.ofNat 1), .str [97], .int .i64 (.ofNat 0), .int .i64 (.ofNat 0)], .int .i64 (.ofNat 1)]) := by kernel_rfl
theorem tk7 (rest : List Nat) : fstOf (call0 91 [.str ([102, 32] ++ rest)] .empty) = some (.tuple [.agg [.int .i64 (.ofNat 1), .str [102], .int .i64 (.ofNat 0), .int .i64 (.ofNat 0)], .int .i64 (.ofNat 1)]) := by kernel_rfl
theorem te7 : fstOf (call0 91 [.str [102]] .empty) = some (.tuple [.agg [.int .i64 (.ofNat 1), .str [102], .int .i64 (.ofNat 0), .int .i64 (.ofNat 0)], .int .i64 (.ofNat 1)]) := by kernel_rfl
theorem tk8 (rest : List Nat) : fstOf (call0 91 [.str ([45, 32] ++ rest)] .empty) = some (.tuple [.agg [.int .i64 (.ofNat 6), .str [45], .int .i64 (.ofNat 0), .int .i64 (.ofNat 0)], .int .i64 (.ofNat 1)]) := by kernel_rfl
theorem te8 : fstOf (call0 91 [.str [45]] .empty) = some (.tuple [.agg [.int .i64 (.ofNat 6), .str [45], .int .i64 (.ofNat 0), .int .i64 (.ofNat 0)], .int .i64 (.ofNat 1)]) := by kernel_rfl
theorem tk9 (rest : List Nat) : fstOf (call0 91 [.str ([33, 32] ++ rest)] .empty) = some (.tuple [.agg [.int .i64 (.ofNat 6), .str [33], .int .i64 (.ofNat 0), .int .i64 (.ofNat 0)], .int .i64 (.ofNat 1)]) := by kernel_rfl
theorem te9 : fstOf (call0 91 [.str [33]] .empty) = some (.tuple [.agg [.int .i64 (.ofNat 6), .str [33], .int .i64 (.ofNat 0), .int .i64 (.ofNat 0)], .int .i64 (.ofNat 1)]) := by kernel_rfl
theorem tk10 (rest : List Nat) : fstOf (call0 91 [.str ([105, 102, 32] ++ rest)] .empty) = some (.tuple [.agg [.int .i64 (.ofNat 2), .str [105, 102], .int .i64 (.ofNat 0), .int .i64 (.ofNat 0)], .int .i64 (.ofNat 2)]) := by kernel_rfl
theorem te10 : fstOf (call0 91 [.str [105, 102]] .empty) = some (.tuple [.agg [.int .i64 (.ofNat 2), .str [105, 102], .int .i64 (.ofNat 0), .int .i64 (.ofNat 0)], .int .i64 (.ofNat 2)]) := by kernel_rfl
theorem tk11 (rest : List Nat) : fstOf (call0 91 [.str ([49, 32] ++ rest)] .empty) = some (.tuple [.agg [.int .i64 (.ofNat 3), .str [], .int .i64 (.ofNat 1), .int .i64 (.ofNat 0)], .int .i64 (.ofNat 1)]) := by kernel_rfl
theorem te11 : fstOf (call0 91 [.str [49]] .empty) = some (.tuple [.agg [.int .i64 (.ofNat 3), .str [], .int .i64 (.ofNat 1), .int .i64 (.ofNat 0)], .int .i64 (.ofNat 1)]) := by kernel_rfl
theorem tk12 (rest : List Nat) : fstOf (call0 91 [.str ([101, 108, 115, 101, 32] ++ rest)] .empty) = some (.tuple [.agg [.int .i64 (.ofNat 2), .str [101, 108, 115, 101], .int .i64 (.ofNat 0), .int .i64 (.ofNat 0)], .int .i64 (.ofNat 4)]) := by kernel_rfl
theorem te12 : fstOf (call0 91 [.str [101, 108, 115, 101]] .empty) = some (.tuple [.agg [.int .i64 (.ofNat 2), .str [101, 108, 115, 101], .int .i64 (.ofNat 0), .int .i64 (.ofNat 0)], .int .i64 (.ofNat 4)]) := by kernel_rfl
theorem tk13 (rest : List Nat) : fstOf (call0 91 [.str ([50, 32] ++ rest)] .empty) = some (.tuple [.agg [.int .i64 (.ofNat 3), .str [], .int .i64 (.ofNat 2), .int .i64 (.ofNat 0)], .int .i64 (.ofNat 1)]) := by kernel_rfl
theorem te13 : fstOf (call0 91 [.str [50]] .empty) = some (.tuple [.agg [.int .i64 (.ofNat 3), .str [], .int .i64 (.ofNat 2), .int .i64 (.ofNat 0)], .int .i64 (.ofNat 1)]) := by kernel_rfl
theorem tk14 (rest : List Nat) : fstOf (call0 91 [.str ([102, 110, 32] ++ rest)] .empty) = some (.tuple [.agg [.int .i64 (.ofNat 2), .str [102, 110], .int .i64 (.ofNat 0), .int .i64 (.ofNat 0)], .int .i64 (.ofNat 2)]) := by kernel_rfl
theorem te14 : fstOf (call0 91 [.str [102, 110]] .empty) = some (.tuple [.agg [.int .i64 (.ofNat 2), .str [102, 110], .int .i64 (.ofNat 0), .int .i64 (.ofNat 0)], .int .i64 (.ofNat 2)]) := by kernel_rfl
theorem tk15 (rest : List Nat) : fstOf (call0 91 [.str ([109, 97, 105, 110, 32] ++ rest)] .empty) = some (.tuple [.agg [.int .i64 (.ofNat 1), .str [109, 97, 105, 110], .int .i64 (.ofNat 0), .int .i64 (.ofNat 0)], .int .i64 (.ofNat 4)]) := by kernel_rfl
theorem te15 : fstOf (call0 91 [.str [109, 97, 105, 110]] .empty) = some (.tuple [.agg [.int .i64 (.ofNat 1), .str [109, 97, 105, 110], .int .i64 (.ofNat 0), .int .i64 (.ofNat 0)], .int .i64 (.ofNat 4)]) := by kernel_rfl
theorem tk16 (rest : List Nat) : fstOf (call0 91 [.str ([43, 32] ++ rest)] .empty) = some (.tuple [.agg [.int .i64 (.ofNat 6), .str [43], .int .i64 (.ofNat 0), .int .i64 (.ofNat 0)], .int .i64 (.ofNat 1)]) := by kernel_rfl
theorem te16 : fstOf (call0 91 [.str [43]] .empty) = some (.tuple [.agg [.int .i64 (.ofNat 6), .str [43], .int .i64 (.ofNat 0), .int .i64 (.ofNat 0)], .int .i64 (.ofNat 1)]) := by kernel_rfl
theorem tk17 (rest : List Nat) : fstOf (call0 91 [.str ([42, 32] ++ rest)] .empty) = some (.tuple [.agg [.int .i64 (.ofNat 6), .str [42], .int .i64 (.ofNat 0), .int .i64 (.ofNat 0)], .int .i64 (.ofNat 1)]) := by kernel_rfl
theorem te17 : fstOf (call0 91 [.str [42]] .empty) = some (.tuple [.agg [.int .i64 (.ofNat 6), .str [42], .int .i64 (.ofNat 0), .int .i64 (.ofNat 0)], .int .i64 (.ofNat 1)]) := by kernel_rfl
theorem tk18 (rest : List Nat) : fstOf (call0 91 [.str ([98, 32] ++ rest)] .empty) = some (.tuple [.agg [.int .i64 (.ofNat 1), .str [98], .int .i64 (.ofNat 0), .int .i64 (.ofNat 0)], .int .i64 (.ofNat 1)]) := by kernel_rfl
theorem te18 : fstOf (call0 91 [.str [98]] .empty) = some (.tuple [.agg [.int .i64 (.ofNat 1), .str [98], .int .i64 (.ofNat 0), .int .i64 (.ofNat 0)], .int .i64 (.ofNat 1)]) := by kernel_rfl
theorem tk19 (rest : List Nat) : fstOf (call0 91 [.str ([60, 32] ++ rest)] .empty) = some (.tuple [.agg [.int .i64 (.ofNat 6), .str [60], .int .i64 (.ofNat 0), .int .i64 (.ofNat 0)], .int .i64 (.ofNat 1)]) := by kernel_rfl
theorem te19 : fstOf (call0 91 [.str [60]] .empty) = some (.tuple [.agg [.int .i64 (.ofNat 6), .str [60], .int .i64 (.ofNat 0), .int .i64 (.ofNat 0)], .int .i64 (.ofNat 1)]) := by kernel_rfl
theorem tk20 (rest : List Nat) : fstOf (call0 91 [.str ([51, 32] ++ rest)] .empty) = some (.tuple [.agg [.int .i64 (.ofNat 3), .str [], .int .i64 (.ofNat 3), .int .i64 (.ofNat 0)], .int .i64 (.ofNat 1)]) := by kernel_rfl
theorem te20 : fstOf (call0 91 [.str [51]] .empty) = some (.tuple [.agg [.int .i64 (.ofNat 3), .str [], .int .i64 (.ofNat 3), .int .i64 (.ofNat 0)], .int .i64 (.ofNat 1)]) := by kernel_rfl
def tokD : List (List Nat × GVal) := [([40, 32], .tuple [.agg [.int .i64 (.ofNat 6), .str [40], .int .i64 (.ofNat 0), .int .i64 (.ofNat 0)], .int .i64 (.ofNat 1)]),
  ([41, 32], .tuple [.agg [.int .i64 (.ofNat 6), .str [41], .int .i64 (.ofNat 0), .int .i64 (.ofNat 0)], .int .i64 (.ofNat 1)]),
  ([91, 32], .tuple [.agg [.int .i64 (.ofNat 6), .str [91], .int .i64 (.ofNat 0), .int .i64 (.ofNat 0)], .int .i64 (.ofNat 1)]),
  ([93, 32], .tuple [.agg [.int .i64 (.ofNat 6), .str [93], .int .i64 (.ofNat 0), .int .i64 (.ofNat 0)], .int .i64 (.ofNat 1)]),
  ([123, 32], .tuple [.agg [.int .i64 (.ofNat 6), .str [123], .int .i64 (.ofNat 0), .int .i64 (.ofNat 0)], .int .i64 (.ofNat 1)]),
  ([125, 32], .tuple [.agg [.int .i64 (.ofNat 6), .str [125], .int .i64 (.ofNat 0), .int .i64 (.ofNat 0)], .int .i64 (.ofNat 1)]),
  ([97, 32], .tuple [.agg [.int .i64 (.ofNat 1), .str [97], .int .i64 (.ofNat 0), .int .i64 (.ofNat 0)], .int .i64 (.ofNat 1)]),
  ([102, 32], .tuple [.agg [.int .i64 (.ofNat 1), .str [102], .int .i64 (.ofNat 0), .int .i64 (.ofNat 0)], .int .i64 (.ofNat 1)]),
  ([45, 32], .tuple [.agg [.int .i64 (.ofNat 6), .str [45], .int .i64 (.ofNat 0), .int .i64 (.ofNat 0)], .int .i64 (.ofNat 1)]),
  ([33, 32], .tuple [.agg [.int .i64 (.ofNat 6), .str [33], .int .i64 (.ofNat 0), .int .i64 (.ofNat 0)], .int .i64 (.ofNat 1)]),
  ([105, 102, 32], .tuple [.agg [.int .i64 (.ofNat 2), .str [105, 102], .int .i64 (.ofNat 0), .int .i64 (.ofNat 0)], .int .i64 (.ofNat 2)]),
  ([49, 32], .tuple [.agg [.int .i64 (.ofNat 3), .str [], .int .i64 (.ofNat 1), .int .i64 (.ofNat 0)], .int .i64 (.ofNat 1)]),
  ([101, 108, 115, 101, 32], .tuple [.agg [.int .i64 (.ofNat 2), .str [101, 108, 115, 101], .int .i64 (.ofNat 0), .int .i64 (.ofNat 0)], .int .i64 (.ofNat 4)]),
  ([50, 32], .tuple [.agg [.int .i64 (.ofNat 3), .str [], .int .i64 (.ofNat 2), .int .i64 (.ofNat 0)], .int .i64 (.ofNat 1)]),
  ([102, 110, 32], .tuple [.agg [.int .i64 (.ofNat 2), .str [102, 110], .int .i64 (.ofNat 0), .int .i64 (.ofNat 0)], .int .i64 (.ofNat 2)]),
  ([109, 97, 105, 110, 32], .tuple [.agg [.int .i64 (.ofNat 1), .str [109, 97, 105, 110], .int .i64 (.ofNat 0), .int .i64 (.ofNat 0)], .int .i64 (.ofNat 4)]),
  ([43, 32], .tuple [.agg [.int .i64 (.ofNat 6), .str [43], .int .i64 (.ofNat 0), .int .i64 (.ofNat 0)], .int .i64 (.ofNat 1)]),
  ([42, 32], .tuple [.agg [.int .i64 (.ofNat 6), .str [42], .int .i64 (.ofNat 0), .int .i64 (.ofNat 0)], .int .i64 (.ofNat 1)]),
  ([98, 32], .tuple [.agg [.int .i64 (.ofNat 1), .str [98], .int .i64 (.ofNat 0), .int .i64 (.ofNat 0)], .int .i64 (.ofNat 1)]),
  ([60, 32], .tuple [.agg [.int .i64 (.ofNat 6), .str [60], .int .i64 (.ofNat 0), .int .i64 (.ofNat 0)], .int .i64 (.ofNat 1)]),
  ([51, 32], .tuple [.agg [.int .i64 (.ofNat 3), .str [], .int .i64 (.ofNat 3), .int .i64 (.ofNat 0)], .int .i64 (.ofNat 1)])]
def tokE : List (List Nat × GVal) := [([40], .tuple [.agg [.int .i64 (.ofNat 6), .str [40], .int .i64 (.ofNat 0), .int .i64 (.ofNat 0)], .int .i64 (.ofNat 1)]),
  ([41], .tuple [.agg [.int .i64 (.ofNat 6), .str [41], .int .i64 (.ofNat 0), .int .i64 (.ofNat 0)], .int .i64 (.ofNat 1)]),
  ([91], .tuple [.agg [.int .i64 (.ofNat 6), .str [91], .int .i64 (.ofNat 0), .int .i64 (.ofNat 0)], .int .i64 (.ofNat 1)]),
  ([93], .tuple [.agg [.int .i64 (.ofNat 6), .str [93], .int .i64 (.ofNat 0), .int .i64 (.ofNat 0)], .int .i64 (.ofNat 1)]),
  ([123], .tuple [.agg [.int .i64 (.ofNat 6), .str [123], .int .i64 (.ofNat 0), .int .i64 (.ofNat 0)], .int .i64 (.ofNat 1)]),
  ([125], .tuple [.agg [.int .i64 (.ofNat 6), .str [125], .int .i64 (.ofNat 0), .int .i64 (.ofNat 0)], .int .i64 (.ofNat 1)]),
  ([97], .tuple [.agg [.int .i64 (.ofNat 1), .str [97], .int .i64 (.ofNat 0), .int .i64 (.ofNat 0)], .int .i64 (.ofNat 1)]),
  ([102], .tuple [.agg [.int .i64 (.ofNat 1), .str [102], .int .i64 (.ofNat 0), .int .i64 (.ofNat 0)], .int .i64 (.ofNat 1)]),
  ([45], .tuple [.agg [.int .i64 (.ofNat 6), .str [45], .int .i64 (.ofNat 0), .int .i64 (.ofNat 0)], .int .i64 (.ofNat 1)]),
  ([33], .tuple [.agg [.int .i64 (.ofNat 6), .str [33], .int .i64 (.ofNat 0), .int .i64 (.ofNat 0)], .int .i64 (.ofNat 1)]),
  ([105, 102], .tuple [.agg [.int .i64 (.ofNat 2), .str [105, 102], .int .i64 (.ofNat 0), .int .i64 (.ofNat 0)], .int .i64 (.ofNat 2)]),
  ([49], .tuple [.agg [.int .i64 (.ofNat 3), .str [], .int .i64 (.ofNat 1), .int .i64 (.ofNat 0)], .int .i64 (.ofNat 1)]),
  ([101, 108, 115, 101], .tuple [.agg [.int .i64 (.ofNat 2), .str [101, 108, 115, 101], .int .i64 (.ofNat 0), .int .i64 (.ofNat 0)], .int .i64 (.ofNat 4)]),
  ([50], .tuple [.agg [.int .i64 (.ofNat 3), .str [], .int .i64 (.ofNat 2), .int .i64 (.ofNat 0)], .int .i64 (.ofNat 1)]),
  ([102, 110], .tuple [.agg [.int .i64 (.ofNat 2), .str [102, 110], .int .i64 (.ofNat 0), .int .i64 (.ofNat 0)], .int .i64 (.ofNat 2)]),
  ([109, 97, 105, 110], .tuple [.agg [.int .i64 (.ofNat 1), .str [109, 97, 105, 110], .int .i64 (.ofNat 0), .int .i64 (.ofNat 0)], .int .i64 (.ofNat 4)]),
  ([43], .tuple [.agg [.int .i64 (.ofNat 6), .str [43], .int .i64 (.ofNat 0), .int .i64 (.ofNat 0)], .int .i64 (.ofNat 1)]),
  ([42], .tuple [.agg [.int .i64 (.ofNat 6), .str [42], .int .i64 (.ofNat 0), .int .i64 (.ofNat 0)], .int .i64 (.ofNat 1)]),
  ([98], .tuple [.agg [.int .i64 (.ofNat 1), .str [98], .int .i64 (.ofNat 0), .int .i64 (.ofNat 0)], .int .i64 (.ofNat 1)]),
  ([60], .tuple [.agg [.int .i64 (.ofNat 6), .str [60], .int .i64 (.ofNat 0), .int .i64 (.ofNat 0)], .int .i64 (.ofNat 1)]),
  ([51], .tuple [.agg [.int .i64 (.ofNat 3), .str [], .int .i64 (.ofNat 3), .int .i64 (.ofNat 0)], .int .i64 (.ofNat 1)])]
theorem tokD_all : AllL (fun p : List Nat × GVal => ∀ rest, fstOf (call0 91 [.str (p.1 ++ rest)] .empty) = some p.2) tokD := ⟨tk0, tk1, tk2, tk3, tk4, tk5, tk6, tk7, tk8, tk9, tk10, tk11, tk12, tk13, tk14, tk15, tk16, tk17, tk18, tk19, tk20, trivial⟩
theorem tokE_all : AllL (fun p : List Nat × GVal => fstOf (call0 91 [.str p.1] .empty) = some p.2) tokE := ⟨te0, te1, te2, te3, te4, te5, te6, te7, te8, te9, te10, te11, te12, te13, te14, te15, te16, te17, te18, te19, te20, trivial⟩
theorem sk33 (rest : List Nat) : fstOf (call0 90 [.str (33 :: rest)] .empty) = some (i64 0) ∧ fstOf (call0 90 [.str (32 :: 33 :: rest)] .empty) = some (i64 1) ∧ fstOf (call0 90 [.str (32 :: 32 :: 33 :: rest)] .empty) = some (i64 2) := ⟨by kernel_rfl, by kernel_rfl, by kernel_rfl⟩
theorem sk36 (rest : List Nat) : fstOf (call0 90 [.str (36 :: rest)] .empty) = some (i64 0) ∧ fstOf (call0 90 [.str (32 :: 36 :: rest)] .empty) = some (i64 1) ∧ fstOf (call0 90 [.str (32 :: 32 :: 36 :: rest)] .empty) = some (i64 2) := ⟨by kernel_rfl, by kernel_rfl, by kernel_rfl⟩
theorem sk37 (rest : List Nat) : fstOf (call0 90 [.str (37 :: rest)] .empty) = some (i64 0) ∧ fstOf (call0 90 [.str (32 :: 37 :: rest)] .empty) = some (i64 1) ∧ fstOf (call0 90 [.str (32 :: 32 :: 37 :: rest)] .empty) = some (i64 2) := ⟨by kernel_rfl, by kernel_rfl, by kernel_rfl⟩
theorem sk38 (rest : List Nat) : fstOf (call0 90 [.str (38 :: rest)] .empty) = some (i64 0) ∧ fstOf (call0 90 [.str (32 :: 38 :: rest)] .empty) = some (i64 1) ∧ fstOf (call0 90 [.str (32 :: 32 :: 38 :: rest)] .empty) = some (i64 2) := ⟨by kernel_rfl, by kernel_rfl, by kernel_rfl⟩
theorem sk39 (rest : List Nat) : fstOf (call0 90 [.str (39 :: rest)] .empty) = some (i64 0) ∧ fstOf (call0 90 [.str (32 :: 39 :: rest)] .empty) = some (i64 1) ∧ fstOf (call0 90 [.str (32 :: 32 :: 39 :: rest)] .empty) = some (i64 2) := ⟨by kernel_rfl, by kernel_rfl, by kernel_rfl⟩
theorem sk40 (rest : List Nat) : fstOf (call0 90 [.str (40 :: rest)] .empty) = some (i64 0) ∧ fstOf (call0 90 [.str (32 :: 40 :: rest)] .empty) = some (i64 1) ∧ fstOf (call0 90 [.str (32 :: 32 :: 40 :: rest)] .empty) = some (i64 2) := ⟨by kernel_rfl, by kernel_rfl, by kernel_rfl⟩
theorem sk41 (rest : List Nat) : fstOf (call0 90 [.str (41 :: rest)] .empty) = some (i64 0) ∧ fstOf (call0 90 [.str (32 :: 41 :: rest)] .empty) = some (i64 1) ∧ fstOf (call0 90 [.str (32 :: 32 :: 41 :: rest)] .empty) = some (i64 2) := ⟨by kernel_rfl, by kernel_rfl, by kernel_rfl⟩
theorem sk42 (rest : List Nat) : fstOf (call0 90 [.str (42 :: rest)] .empty) = some (i64 0) ∧ fstOf (call0 90 [.str (32 :: 42 :: rest)] .empty) = some (i64 1) ∧ fstOf (call0 90 [.str (32 :: 32 :: 42 :: rest)] .empty) = some (i64 2) := ⟨by kernel_rfl, by kernel_rfl, by kernel_rfl⟩
theorem sk43 (rest : List Nat) : fstOf (call0 90 [.str (43 :: rest)] .empty) = some (i64 0) ∧ fstOf (call0 90 [.str (32 :: 43 :: rest)] .empty) = some (i64 1) ∧ fstOf (call0 90 [.str (32 :: 32 :: 43 :: rest)] .empty) = some (i64 2) := ⟨by kernel_rfl, by kernel_rfl, by kernel_rfl⟩
theorem sk44 (rest : List Nat) : fstOf (call0 90 [.str (44 :: rest)] .empty) = some (i64 0) ∧ fstOf (call0 90 [.str (32 :: 44 :: rest)] .empty) = some (i64 1) ∧ fstOf (call0 90 [.str (32 :: 32 :: 44 :: rest)] .empty) = some (i64 2) := ⟨by kernel_rfl, by kernel_rfl, by kernel_rfl⟩
theorem sk45 (rest : List Nat) : fstOf (call0 90 [.str (45 :: rest)] .empty) = some (i64 0) ∧ fstOf (call0 90 [.str (32 :: 45 :: rest)] .empty) = some (i64 1) ∧ fstOf (call0 90 [.str (32 :: 32 :: 45 :: rest)] .empty) = some (i64 2) := ⟨by kernel_rfl, by kernel_rfl, by kernel_rfl⟩
theorem sk46 (rest : List Nat) : fstOf (call0 90 [.str (46 :: rest)] .empty) = some (i64 0) ∧ fstOf (call0 90 [.str (32 :: 46 :: rest)] .empty) = some (i64 1) ∧ fstOf (call0 90 [.str (32 :: 32 :: 46 :: rest)] .empty) = some (i64 2) := ⟨by kernel_rfl, by kernel_rfl, by kernel_rfl⟩
theorem sk47 (rest : List Nat) : fstOf (call0 90 [.str (47 :: rest)] .empty) = some (i64 0) ∧ fstOf (call0 90 [.str (32 :: 47 :: rest)] .empty) = some (i64 1) ∧ fstOf (call0 90 [.str (32 :: 32 :: 47 :: rest)] .empty) = some (i64 2) := ⟨by kernel_rfl, by kernel_rfl, by kernel_rfl⟩
theorem sk48 (rest : List Nat) : fstOf (call0 90 [.str (48 :: rest)] .empty) = some (i64 0) ∧ fstOf (call0 90 [.str (32 :: 48 :: rest)] .empty) = some (i64 1) ∧ fstOf (call0 90 [.str (32 :: 32 :: 48 :: rest)] .empty) = some (i64 2) := ⟨by kernel_rfl, by kernel_rfl, by kernel_rfl⟩
theorem sk49 (rest : List Nat) : fstOf (call0 90 [.str (49 :: rest)] .empty) = some (i64 0) ∧ fstOf (call0 90 [.str (32 :: 49 :: rest)] .empty) = some (i64 1) ∧ fstOf (call0 90 [.str (32 :: 32 :: 49 :: rest)] .empty) = some (i64 2) := ⟨by kernel_rfl, by kernel_rfl, by kernel_rfl⟩
theorem sk50 (rest : List Nat) : fstOf (call0 90 [.str (50 :: rest)] .empty) = some (i64 0) ∧ fstOf (call0 90 [.str (32 :: 50 :: rest)] .empty) = some (i64 1) ∧ fstOf (call0 90 [.str (32 :: 32 :: 50 :: rest)] .empty) = some (i64 2) := ⟨by kernel_rfl, by kernel_rfl, by kernel_rfl⟩
theorem sk51 (rest : List Nat) : fstOf (call0 90 [.str (51 :: rest)] .empty) = some (i64 0) ∧ fstOf (call0 90 [.str (32 :: 51 :: rest)] .empty) = some (i64 1) ∧ fstOf (call0 90 [.str (32 :: 32 :: 51 :: rest)] .empty) = some (i64 2) := ⟨by kernel_rfl, by kernel_rfl, by kernel_rfl⟩
theorem sk52 (rest : List Nat) : fstOf (call0 90 [.str (52 :: rest)] .empty) = some (i64 0) ∧ fstOf (call0 90 [.str (32 :: 52 :: rest)] .empty) = some (i64 1) ∧ fstOf (call0 90 [.str (32 :: 32 :: 52 :: rest)] .empty) = some (i64 2) := ⟨by kernel_rfl, by kernel_rfl, by kernel_rfl⟩
theorem sk53 (rest : List Nat) : fstOf (call0 90 [.str (53 :: rest)] .empty) = some (i64 0) ∧ fstOf (call0 90 [.str (32 :: 53 :: rest)] .empty) = some (i64 1) ∧ fstOf (call0 90 [.str (32 :: 32 :: 53 :: rest)] .empty) = some (i64 2) := ⟨by kernel_rfl, by kernel_rfl, by kernel_rfl⟩
theorem sk54 (rest : List Nat) : fstOf (call0 90 [.str (54 :: rest)] .empty) = some (i64 0) ∧ fstOf (call0 90 [.str (32 :: 54 :: rest)] .empty) = some (i64 1) ∧ fstOf (call0 90 [.str (32 :: 32 :: 54 :: rest)] .empty) = some (i64 2) := ⟨by kernel_rfl, by kernel_rfl, by kernel_rfl⟩
theorem sk55 (rest : List Nat) : fstOf (call0 90 [.str (55 :: rest)] .empty) = some (i64 0) ∧ fstOf (call0 90 [.str (32 :: 55 :: rest)] .empty) = some (i64 1) ∧ fstOf (call0 90 [.str (32 :: 32 :: 55 :: rest)] .empty) = some (i64 2) := ⟨by kernel_rfl, by kernel_rfl, by kernel_rfl⟩
theorem sk56 (rest : List Nat) : fstOf (call0 90 [.str (56 :: rest)] .empty) = some (i64 0) ∧ fstOf (call0 90 [.str (32 :: 56 :: rest)] .empty) = some (i64 1) ∧ fstOf (call0 90 [.str (32 :: 32 :: 56 :: rest)] .empty) = some (i64 2) := ⟨by kernel_rfl, by kernel_rfl, by kernel_rfl⟩
theorem sk57 (rest : List Nat) : fstOf (call0 90 [.str (57 :: rest)] .empty) = some (i64 0) ∧ fstOf (call0 90 [.str (32 :: 57 :: rest)] .empty) = some (i64 1) ∧ fstOf (call0 90 [.str (32 :: 32 :: 57 :: rest)] .empty) = some (i64 2) := ⟨by kernel_rfl, by kernel_rfl, by kernel_rfl⟩
theorem sk58 (rest : List Nat) : fstOf (call0 90 [.str (58 :: rest)] .empty) = some (i64 0) ∧ fstOf (call0 90 [.str (32 :: 58 :: rest)] .empty) = some (i64 1) ∧ fstOf (call0 90 [.str (32 :: 32 :: 58 :: rest)] .empty) = some (i64 2) := ⟨by kernel_rfl, by kernel_rfl, by kernel_rfl⟩
theorem sk59 (rest : List Nat) : fstOf (call0 90 [.str (59 :: rest)] .empty) = some (i64 0) ∧ fstOf (call0 90 [.str (32 :: 59 :: rest)] .empty) = some (i64 1) ∧ fstOf (call0 90 [.str (32 :: 32 :: 59 :: rest)] .empty) = some (i64 2) := ⟨by kernel_rfl, by kernel_rfl, by kernel_rfl⟩
theorem sk60 (rest : List Nat) : fstOf (call0 90 [.str (60 :: rest)] .empty) = some (i64 0) ∧ fstOf (call0 90 [.str (32 :: 60 :: rest)] .empty) = some (i64 1) ∧ fstOf (call0 90 [.str (32 :: 32 :: 60 :: rest)] .empty) = some (i64 2) := ⟨by kernel_rfl, by kernel_rfl, by kernel_rfl⟩
theorem sk61 (rest : List Nat) : fstOf (call0 90 [.str (61 :: rest)] .empty) = some (i64 0) ∧ fstOf (call0 90 [.str (32 :: 61 :: rest)] .empty) = some (i64 1) ∧ fstOf (call0 90 [.str (32 :: 32 :: 61 :: rest)] .empty) = some (i64 2) := ⟨by kernel_rfl, by kernel_rfl, by kernel_rfl⟩
theorem sk62 (rest : List Nat) : fstOf (call0 90 [.str (62 :: rest)] .empty) = some (i64 0) ∧ fstOf (call0 90 [.str (32 :: 62 :: rest)] .empty) = some (i64 1) ∧ fstOf (call0 90 [.str (32 :: 32 :: 62 :: rest)] .empty) = some (i64 2) := ⟨by kernel_rfl, by kernel_rfl, by kernel_rfl⟩
theorem sk63 (rest : List Nat) : fstOf (call0 90 [.str (63 :: rest)] .empty) = some (i64 0) ∧ fstOf (call0 90 [.str (32 :: 63 :: rest)] .empty) = some (i64 1) ∧ fstOf (call0 90 [.str (32 :: 32 :: 63 :: rest)] .empty) = some (i64 2) := ⟨by kernel_rfl, by kernel_rfl, by kernel_rfl⟩
theorem sk64 (rest : List Nat) : fstOf (call0 90 [.str (64 :: rest)] .empty) = some (i64 0) ∧ fstOf (call0 90 [.str (32 :: 64 :: rest)] .empty) = some (i64 1) ∧ fstOf (call0 90 [.str (32 :: 32 :: 64 :: rest)] .empty) = some (i64 2) := ⟨by kernel_rfl, by kernel_rfl, by kernel_rfl⟩
theorem sk65 (rest : List Nat) : fstOf (call0 90 [.str (65 :: rest)] .empty) = some (i64 0) ∧ fstOf (call0 90 [.str (32 :: 65 :: rest)] .empty) = some (i64 1) ∧ fstOf (call0 90 [.str (32 :: 32 :: 65 :: rest)] .empty) = some (i64 2) := ⟨by kernel_rfl, by kernel_rfl, by kernel_rfl⟩
theorem sk66 (rest : List Nat) : fstOf (call0 90 [.str (66 :: rest)] .empty) = some (i64 0) ∧ fstOf (call0 90 [.str (32 :: 66 :: rest)] .empty) = some (i64 1) ∧ fstOf (call0 90 [.str (32 :: 32 :: 66 :: rest)] .empty) = some (i64 2) := ⟨by kernel_rfl, by kernel_rfl, by kernel_rfl⟩
theorem sk67 (rest : List Nat) : fstOf (call0 90 [.str (67 :: rest)] .empty) = some (i64 0) ∧ fstOf (call0 90 [.str (32 :: 67 :: rest)] .empty) = some (i64 1) ∧ fstOf (call0 90 [.str (32 :: 32 :: 67 :: rest)] .empty) = some (i64 2) := ⟨by kernel_rfl, by kernel_rfl, by kernel_rfl⟩
theorem sk68 (rest : List Nat) : fstOf (call0 90 [.str (68 :: rest)] .empty) = some (i64 0) ∧ fstOf (call0 90 [.str (32 :: 68 :: rest)] .empty) = some (i64 1) ∧ fstOf (call0 90 [.str (32 :: 32 :: 68 :: rest)] .empty) = some (i64 2) := ⟨by kernel_rfl, by kernel_rfl, by kernel_rfl⟩
theorem sk69 (rest : List Nat) : fstOf (call0 90 [.str (69 :: rest)] .empty) = some (i64 0) ∧ fstOf (call0 90 [.str (32 :: 69 :: rest)] .empty) = some (i64 1) ∧ fstOf (call0 90 [.str (32 :: 32 :: 69 :: rest)] .empty) = some (i64 2) := ⟨by kernel_rfl, by kernel_rfl, by kernel_rfl⟩
theorem sk70 (rest : List Nat) : fstOf (call0 90 [.str (70 :: rest)] .empty) = some (i64 0) ∧ fstOf (call0 90 [.str (32 :: 70 :: rest)] .empty) = some (i64 1) ∧ fstOf (call0 90 [.str (32 :: 32 :: 70 :: rest)] .empty) = some (i64 2) := ⟨by kernel_rfl, by kernel_rfl, by kernel_rfl⟩
theorem sk71 (rest : List Nat) : fstOf (call0 90 [.str (71 :: rest)] .empty) = some (i64 0) ∧ fstOf (call0 90 [.str (32 :: 71 :: rest)] .empty) = some (i64 1) ∧ fstOf (call0 90 [.str (32 :: 32 :: 71 :: rest)] .empty) = some (i64 2) := ⟨by kernel_rfl, by kernel_rfl, by kernel_rfl⟩
theorem sk72 (rest : List Nat) : fstOf (call0 90 [.str (72 :: rest)] .empty) = some (i64 0) ∧ fstOf (call0 90 [.str (32 :: 72 :: rest)] .empty) = some (i64 1) ∧ fstOf (call0 90 [.str (32 :: 32 :: 72 :: rest)] .empty) = some (i64 2) := ⟨by kernel_rfl, by kernel_rfl, by kernel_rfl⟩
theorem sk73 (rest : List Nat) : fstOf (call0 90 [.str (73 :: rest)] .empty) = some (i64 0) ∧ fstOf (call0 90 [.str (32 :: 73 :: rest)] .empty) = some (i64 1) ∧ fstOf (call0 90 [.str (32 :: 32 :: 73 :: rest)] .empty) = some (i64 2) := ⟨by kernel_rfl, by kernel_rfl, by kernel_rfl⟩
theorem sk74 (rest : List Nat) : fstOf (call0 90 [.str (74 :: rest)] .empty) = some (i64 0) ∧ fstOf (call0 90 [.str (32 :: 74 :: rest)] .empty) = some (i64 1) ∧ fstOf (call0 90 [.str (32 :: 32 :: 74 :: rest)] .empty) = some (i64 2) := ⟨by kernel_rfl, by kernel_rfl, by kernel_rfl⟩
theorem sk75 (rest : List Nat) : fstOf (call0 90 [.str (75 :: rest)] .empty) = some (i64 0) ∧ fstOf (call0 90 [.str (32 :: 75 :: rest)] .empty) = some (i64 1) ∧ fstOf (call0 90 [.str (32 :: 32 :: 75 :: rest)] .empty) = some (i64 2) := ⟨by kernel_rfl, by kernel_rfl, by kernel_rfl⟩
theorem sk76 (rest : List Nat) : fstOf (call0 90 [.str (76 :: rest)] .empty) = some (i64 0) ∧ fstOf (call0 90 [.str (32 :: 76 :: rest)] .empty) = some (i64 1) ∧ fstOf (call0 90 [.str (32 :: 32 :: 76 :: rest)] .empty) = some (i64 2) := ⟨by kernel_rfl, by kernel_rfl, by kernel_rfl⟩
theorem sk77 (rest : List Nat) : fstOf (call0 90 [.str (77 :: rest)] .empty) = some (i64 0) ∧ fstOf (call0 90 [.str (32 :: 77 :: rest)] .empty) = some (i64 1) ∧ fstOf (call0 90 [.str (32 :: 32 :: 77 :: rest)] .empty) = some (i64 2) := ⟨by kernel_rfl, by kernel_rfl, by kernel_rfl⟩
theorem sk78 (rest : List Nat) : fstOf (call0 90 [.str (78 :: rest)] .empty) = some (i64 0) ∧ fstOf (call0 90 [.str (32 :: 78 :: rest)] .empty) = some (i64 1) ∧ fstOf (call0 90 [.str (32 :: 32 :: 78 :: rest)] .empty) = some (i64 2) := ⟨by kernel_rfl, by kernel_rfl, by kernel_rfl⟩
theorem sk79 (rest : List Nat) : fstOf (call0 90 [.str (79 :: rest)] .empty) = some (i64 0) ∧ fstOf (call0 90 [.str (32 :: 79 :: rest)] .empty) = some (i64 1) ∧ fstOf (call0 90 [.str (32 :: 32 :: 79 :: rest)] .empty) = some (i64 2) := ⟨by kernel_rfl, by kernel_rfl, by kernel_rfl⟩
theorem sk80 (rest : List Nat) : fstOf (call0 90 [.str (80 :: rest)] .empty) = some (i64 0) ∧ fstOf (call0 90 [.str (32 :: 80 :: rest)] .empty) = some (i64 1) ∧ fstOf (call0 90 [.str (32 :: 32 :: 80 :: rest)] .empty) = some (i64 2) := ⟨by kernel_rfl, by kernel_rfl, by kernel_rfl⟩
theorem sk81 (rest : List Nat) : fstOf (call0 90 [.str (81 :: rest)] .empty) = some (i64 0) ∧ fstOf (call0 90 [.str (32 :: 81 :: rest)] .empty) = some (i64 1) ∧ fstOf (call0 90 [.str (32 :: 32 :: 81 :: rest)] .empty) = some (i64 2) := ⟨by kernel_rfl, by kernel_rfl, by kernel_rfl⟩
theorem sk82 (rest : List Nat) : fstOf (call0 90 [.str (82 :: rest)] .empty) = some (i64 0) ∧ fstOf (call0 90 [.str (32 :: 82 :: rest)] .empty) = some (i64 1) ∧ fstOf (call0 90 [.str (32 :: 32 :: 82 :: rest)] .empty) = some (i64 2) := ⟨by kernel_rfl, by kernel_rfl, by kernel_rfl⟩
theorem sk83 (rest : List Nat) : fstOf (call0 90 [.str (83 :: rest)] .empty) = some (i64 0) ∧ fstOf (call0 90 [.str (32 :: 83 :: rest)] .empty) = some (i64 1) ∧ fstOf (call0 90 [.str (32 :: 32 :: 83 :: rest)] .empty) = some (i64 2) := ⟨by kernel_rfl, by kernel_rfl, by kernel_rfl⟩
theorem sk84 (rest : List Nat) : fstOf (call0 90 [.str (84 :: rest)] .empty) = some (i64 0) ∧ fstOf (call0 90 [.str (32 :: 84 :: rest)] .empty) = some (i64 1) ∧ fstOf (call0 90 [.str (32 :: 32 :: 84 :: rest)] .empty) = some (i64 2) := ⟨by kernel_rfl, by kernel_rfl, by kernel_rfl⟩
theorem sk85 (rest : List Nat) : fstOf (call0 90 [.str (85 :: rest)] .empty) = some (i64 0) ∧ fstOf (call0 90 [.str (32 :: 85 :: rest)] .empty) = some (i64 1) ∧ fstOf (call0 90 [.str (32 :: 32 :: 85 :: rest)] .empty) = some (i64 2) := ⟨by kernel_rfl, by kernel_rfl, by kernel_rfl⟩
theorem sk86 (rest : List Nat) : fstOf (call0 90 [.str (86 :: rest)] .empty) = some (i64 0) ∧ fstOf (call0 90 [.str (32 :: 86 :: rest)] .empty) = some (i64 1) ∧ fstOf (call0 90 [.str (32 :: 32 :: 86 :: rest)] .empty) = some (i64 2) := ⟨by kernel_rfl, by kernel_rfl, by kernel_rfl⟩
theorem sk87 (rest : List Nat) : fstOf (call0 90 [.str (87 :: rest)] .empty) = some (i64 0) ∧ fstOf (call0 90 [.str (32 :: 87 :: rest)] .empty) = some (i64 1) ∧ fstOf (call0 90 [.str (32 :: 32 :: 87 :: rest)] .empty) = some (i64 2) := ⟨by kernel_rfl, by kernel_rfl, by kernel_rfl⟩
theorem sk88 (rest : List Nat) : fstOf (call0 90 [.str (88 :: rest)] .empty) = some (i64 0) ∧ fstOf (call0 90 [.str (32 :: 88 :: rest)] .empty) = some (i64 1) ∧ fstOf (call0 90 [.str (32 :: 32 :: 88 :: rest)] .empty) = some (i64 2) := ⟨by kernel_rfl, by kernel_rfl, by kernel_rfl⟩
theorem sk89 (rest : List Nat) : fstOf (call0 90 [.str (89 :: rest)] .empty) = some (i64 0) ∧ fstOf (call0 90 [.str (32 :: 89 :: rest)] .empty) = some (i64 1) ∧ fstOf (call0 90 [.str (32 :: 32 :: 89 :: rest)] .empty) = some (i64 2) := ⟨by kernel_rfl, by kernel_rfl, by kernel_rfl⟩
theorem sk90 (rest : List Nat) : fstOf (call0 90 [.str (90 :: rest)] .empty) = some (i64 0) ∧ fstOf (call0 90 [.str (32 :: 90 :: rest)] .empty) = some (i64 1) ∧ fstOf (call0 90 [.str (32 :: 32 :: 90 :: rest)] .empty) = some (i64 2) := ⟨by kernel_rfl, by kernel_rfl, by kernel_rfl⟩
theorem sk91 (rest : List Nat) : fstOf (call0 90 [.str (91 :: rest)] .empty) = some (i64 0) ∧ fstOf (call0 90 [.str (32 :: 91 :: rest)] .empty) = some (i64 1) ∧ fstOf (call0 90 [.str (32 :: 32 :: 91 :: rest)] .empty) = some (i64 2) := ⟨by kernel_rfl, by kernel_rfl, by kernel_rfl⟩
theorem sk92 (rest : List Nat) : fstOf (call0 90 [.str (92 :: rest)] .empty) = some (i64 0) ∧ fstOf (call0 90 [.str (32 :: 92 :: rest)] .empty) = some (i64 1) ∧ fstOf (call0 90 [.str (32 :: 32 :: 92 :: rest)] .empty) = some (i64 2) := ⟨by kernel_rfl, by kernel_rfl, by kernel_rfl⟩
theorem sk93 (rest : List Nat) : fstOf (call0 90 [.str (93 :: rest)] .empty) = some (i64 0) ∧ fstOf (call0 90 [.str (32 :: 93 :: rest)] .empty) = some (i64 1) ∧ fstOf (call0 90 [.str (32 :: 32 :: 93 :: rest)] .empty) = some (i64 2) := ⟨by kernel_rfl, by kernel_rfl, by kernel_rfl⟩
theorem sk94 (rest : List Nat) : fstOf (call0 90 [.str (94 :: rest)] .empty) = some (i64 0) ∧ fstOf (call0 90 [.str (32 :: 94 :: rest)] .empty) = some (i64 1) ∧ fstOf (call0 90 [.str (32 :: 32 :: 94 :: rest)] .empty) = some (i64 2) := ⟨by kernel_rfl, by kernel_rfl, by kernel_rfl⟩
theorem sk95 (rest : List Nat) : fstOf (call0 90 [.str (95 :: rest)] .empty) = some (i64 0) ∧ fstOf (call0 90 [.str (32 :: 95 :: rest)] .empty) = some (i64 1) ∧ fstOf (call0 90 [.str (32 :: 32 :: 95 :: rest)] .empty) = some (i64 2) := ⟨by kernel_rfl, by kernel_rfl, by kernel_rfl⟩
theorem sk96 (rest : List Nat) : fstOf (call0 90 [.str (96 :: rest)] .empty) = some (i64 0) ∧ fstOf (call0 90 [.str (32 :: 96 :: rest)] .empty) = some (i64 1) ∧ fstOf (call0 90 [.str (32 :: 32 :: 96 :: rest)] .empty) = some (i64 2) := ⟨by kernel_rfl, by kernel_rfl, by kernel_rfl⟩
theorem sk97 (rest : List Nat) : fstOf (call0 90 [.str (97 :: rest)] .empty) = some (i64 0) ∧ fstOf (call0 90 [.str (32 :: 97 :: rest)] .empty) = some (i64 1) ∧ fstOf (call0 90 [.str (32 :: 32 :: 97 :: rest)] .empty) = some (i64 2) := ⟨by kernel_rfl, by kernel_rfl, by kernel_rfl⟩
theorem sk98 (rest : List Nat) : fstOf (call0 90 [.str (98 :: rest)] .empty) = some (i64 0) ∧ fstOf (call0 90 [.str (32 :: 98 :: rest)] .empty) = some (i64 1) ∧ fstOf (call0 90 [.str (32 :: 32 :: 98 :: rest)] .empty) = some (i64 2) := ⟨by kernel_rfl, by kernel_rfl, by kernel_rfl⟩
theorem sk99 (rest : List Nat) : fstOf (call0 90 [.str (99 :: rest)] .empty) = some (i64 0) ∧ fstOf (call0 90 [.str (32 :: 99 :: rest)] .empty) = some (i64 1) ∧ fstOf (call0 90 [.str (32 :: 32 :: 99 :: rest)] .empty) = some (i64 2) := ⟨by kernel_rfl, by kernel_rfl, by kernel_rfl⟩
theorem sk100 (rest : List Nat) : fstOf (call0 90 [.str (100 :: rest)] .empty) = some (i64 0) ∧ fstOf (call0 90 [.str (32 :: 100 :: rest)] .empty) = some (i64 1) ∧ fstOf (call0 90 [.str (32 :: 32 :: 100 :: rest)] .empty) = some (i64 2) := ⟨by kernel_rfl, by kernel_rfl, by kernel_rfl⟩
theorem sk101 (rest : List Nat) : fstOf (call0 90 [.str (101 :: rest)] .empty) = some (i64 0) ∧ fstOf (call0 90 [.str (32 :: 101 :: rest)] .empty) = some (i64 1) ∧ fstOf (call0 90 [.str (32 :: 32 :: 101 :: rest)] .empty) = some (i64 2) := ⟨by kernel_rfl, by kernel_rfl, by kernel_rfl⟩
theorem sk102 (rest : List Nat) : fstOf (call0 90 [.str (102 :: rest)] .empty) = some (i64 0) ∧ fstOf (call0 90 [.str (32 :: 102 :: rest)] .empty) = some (i64 1) ∧ fstOf (call0 90 [.str (32 :: 32 :: 102 :: rest)] .empty) = some (i64 2) := ⟨by kernel_rfl, by kernel_rfl, by kernel_rfl⟩
theorem sk103 (rest : List Nat) : fstOf (call0 90 [.str (103 :: rest)] .empty) = some (i64 0) ∧ fstOf (call0 90 [.str (32 :: 103 :: rest)] .empty) = some (i64 1) ∧ fstOf (call0 90 [.str (32 :: 32 :: 103 :: rest)] .empty) = some (i64 2) := ⟨by kernel_rfl, by kernel_rfl, by kernel_rfl⟩
theorem sk104 (rest : List Nat) : fstOf (call0 90 [.str (104 :: rest)] .empty) = some (i64 0) ∧ fstOf (call0 90 [.str (32 :: 104 :: rest)] .empty) = some (i64 1) ∧ fstOf (call0 90 [.str (32 :: 32 :: 104 :: rest)] .empty) = some (i64 2) := ⟨by kernel_rfl, by kernel_rfl, by kernel_rfl⟩
theorem sk105 (rest : List Nat) : fstOf (call0 90 [.str (105 :: rest)] .empty) = some (i64 0) ∧ fstOf (call0 90 [.str (32 :: 105 :: rest)] .empty) = some (i64 1) ∧ fstOf (call0 90 [.str (32 :: 32 :: 105 :: rest)] .empty) = some (i64 2) := ⟨by kernel_rfl, by kernel_rfl, by kernel_rfl⟩
theorem sk106 (rest : List Nat) : fstOf (call0 90 [.str (106 :: rest)] .empty) = some (i64 0) ∧ fstOf (call0 90 [.str (32 :: 106 :: rest)] .empty) = some (i64 1) ∧ fstOf (call0 90 [.str (32 :: 32 :: 106 :: rest)] .empty) = some (i64 2) := ⟨by kernel_rfl, by kernel_rfl, by kernel_rfl⟩
theorem sk107 (rest : List Nat) : fstOf (call0 90 [.str (107 :: rest)] .empty) = some (i64 0) ∧ fstOf (call0 90 [.str (32 :: 107 :: rest)] .empty) = some (i64 1) ∧ fstOf (call0 90 [.str (32 :: 32 :: 107 :: rest)] .empty) = some (i64 2) := ⟨by kernel_rfl, by kernel_rfl, by kernel_rfl⟩
theorem sk108 (rest : List Nat) : fstOf (call0 90 [.str (108 :: rest)] .empty) = some (i64 0) ∧ fstOf (call0 90 [.str (32 :: 108 :: rest)] .empty) = some (i64 1) ∧ fstOf (call0 90 [.str (32 :: 32 :: 108 :: rest)] .empty) = some (i64 2) := ⟨by kernel_rfl, by kernel_rfl, by kernel_rfl⟩
theorem sk109 (rest : List Nat) : fstOf (call0 90 [.str (109 :: rest)] .empty) = some (i64 0) ∧ fstOf (call0 90 [.str (32 :: 109 :: rest)] .empty) = some (i64 1) ∧ fstOf (call0 90 [.str (32 :: 32 :: 109 :: rest)] .empty) = some (i64 2) := ⟨by kernel_rfl, by kernel_rfl, by kernel_rfl⟩
theorem sk110 (rest : List Nat) : fstOf (call0 90 [.str (110 :: rest)] .empty) = some (i64 0) ∧ fstOf (call0 90 [.str (32 :: 110 :: rest)] .empty) = some (i64 1) ∧ fstOf (call0 90 [.str (32 :: 32 :: 110 :: rest)] .empty) = some (i64 2) := ⟨by kernel_rfl, by kernel_rfl, by kernel_rfl⟩
theorem sk111 (rest : List Nat) : fstOf (call0 90 [.str (111 :: rest)] .empty) = some (i64 0) ∧ fstOf (call0 90 [.str (32 :: 111 :: rest)] .empty) = some (i64 1) ∧ fstOf (call0 90 [.str (32 :: 32 :: 111 :: rest)] .empty) = some (i64 2) := ⟨by kernel_rfl, by kernel_rfl, by kernel_rfl⟩
theorem sk112 (rest : List Nat) : fstOf (call0 90 [.str (112 :: rest)] .empty) = some (i64 0) ∧ fstOf (call0 90 [.str (32 :: 112 :: rest)] .empty) = some (i64 1) ∧ fstOf (call0 90 [.str (32 :: 32 :: 112 :: rest)] .empty) = some (i64 2) := ⟨by kernel_rfl, by kernel_rfl, by kernel_rfl⟩
theorem sk113 (rest : List Nat) : fstOf (call0 90 [.str (113 :: rest)] .empty) = some (i64 0) ∧ fstOf (call0 90 [.str (32 :: 113 :: rest)] .empty) = some (i64 1) ∧ fstOf (call0 90 [.str (32 :: 32 :: 113 :: rest)] .empty) = some (i64 2) := ⟨by kernel_rfl, by kernel_rfl, by kernel_rfl⟩
theorem sk114 (rest : List Nat) : fstOf (call0 90 [.str (114 :: rest)] .empty) = some (i64 0) ∧ fstOf (call0 90 [.str (32 :: 114 :: rest)] .empty) = some (i64 1) ∧ fstOf (call0 90 [.str (32 :: 32 :: 114 :: rest)] .empty) = some (i64 2) := ⟨by kernel_rfl, by kernel_rfl, by kernel_rfl⟩
theorem sk115 (rest : List Nat) : fstOf (call0 90 [.str (115 :: rest)] .empty) = some (i64 0) ∧ fstOf (call0 90 [.str (32 :: 115 :: rest)] .empty) = some (i64 1) ∧ fstOf (call0 90 [.str (32 :: 32 :: 115 :: rest)] .empty) = some (i64 2) := ⟨by kernel_rfl, by kernel_rfl, by kernel_rfl⟩
theorem sk116 (rest : List Nat) : fstOf (call0 90 [.str (116 :: rest)] .empty) = some (i64 0) ∧ fstOf (call0 90 [.str (32 :: 116 :: rest)] .empty) = some (i64 1) ∧ fstOf (call0 90 [.str (32 :: 32 :: 116 :: rest)] .empty) = some (i64 2) := ⟨by kernel_rfl, by kernel_rfl, by kernel_rfl⟩
theorem sk117 (rest : List Nat) : fstOf (call0 90 [.str (117 :: rest)] .empty) = some (i64 0) ∧ fstOf (call0 90 [.str (32 :: 117 :: rest)] .empty) = some (i64 1) ∧ fstOf (call0 90 [.str (32 :: 32 :: 117 :: rest)] .empty) = some (i64 2) := ⟨by kernel_rfl, by kernel_rfl, by kernel_rfl⟩
theorem sk118 (rest : List Nat) : fstOf (call0 90 [.str (118 :: rest)] .empty) = some (i64 0) ∧ fstOf (call0 90 [.str (32 :: 118 :: rest)] .empty) = some (i64 1) ∧ fstOf (call0 90 [.str (32 :: 32 :: 118 :: rest)] .empty) = some (i64 2) := ⟨by kernel_rfl, by kernel_rfl, by kernel_rfl⟩
theorem sk119 (rest : List Nat) : fstOf (call0 90 [.str (119 :: rest)] .empty) = some (i64 0) ∧ fstOf (call0 90 [.str (32 :: 119 :: rest)] .empty) = some (i64 1) ∧ fstOf (call0 90 [.str (32 :: 32 :: 119 :: rest)] .empty) = some (i64 2) := ⟨by kernel_rfl, by kernel_rfl, by kernel_rfl⟩
theorem sk120 (rest : List Nat) : fstOf (call0 90 [.str (120 :: rest)] .empty) = some (i64 0) ∧ fstOf (call0 90 [.str (32 :: 120 :: rest)] .empty) = some (i64 1) ∧ fstOf (call0 90 [.str (32 :: 32 :: 120 :: rest)] .empty) = some (i64 2) := ⟨by kernel_rfl, by kernel_rfl, by kernel_rfl⟩
theorem sk121 (rest : List Nat) : fstOf (call0 90 [.str (121 :: rest)] .empty) = some (i64 0) ∧ fstOf (call0 90 [.str (32 :: 121 :: rest)] .empty) = some (i64 1) ∧ fstOf (call0 90 [.str (32 :: 32 :: 121 :: rest)] .empty) = some (i64 2) := ⟨by kernel_rfl, by kernel_rfl, by kernel_rfl⟩
theorem sk122 (rest : List Nat) : fstOf (call0 90 [.str (122 :: rest)] .empty) = some (i64 0) ∧ fstOf (call0 90 [.str (32 :: 122 :: rest)] .empty) = some (i64 1) ∧ fstOf (call0 90 [.str (32 :: 32 :: 122 :: rest)] .empty) = some (i64 2) := ⟨by kernel_rfl, by kernel_rfl, by kernel_rfl⟩
theorem sk123 (rest : List Nat) : fstOf (call0 90 [.str (123 :: rest)] .empty) = some (i64 0) ∧ fstOf (call0 90 [.str (32 :: 123 :: rest)] .empty) = some (i64 1) ∧ fstOf (call0 90 [.str (32 :: 32 :: 123 :: rest)] .empty) = some (i64 2) := ⟨by kernel_rfl, by kernel_rfl, by kernel_rfl⟩
theorem sk124 (rest : List Nat) : fstOf (call0 90 [.str (124 :: rest)] .empty) = some (i64 0) ∧ fstOf (call0 90 [.str (32 :: 124 :: rest)] .empty) = some (i64 1) ∧ fstOf (call0 90 [.str (32 :: 32 :: 124 :: rest)] .empty) = some (i64 2) := ⟨by kernel_rfl, by kernel_rfl, by kernel_rfl⟩
theorem sk125 (rest : List Nat) : fstOf (call0 90 [.str (125 :: rest)] .empty) = some (i64 0) ∧ fstOf (call0 90 [.str (32 :: 125 :: rest)] .empty) = some (i64 1) ∧ fstOf (call0 90 [.str (32 :: 32 :: 125 :: rest)] .empty) = some (i64 2) := ⟨by kernel_rfl, by kernel_rfl, by kernel_rfl⟩
theorem sk126 (rest : List Nat) : fstOf (call0 90 [.str (126 :: rest)] .empty) = some (i64 0) ∧ fstOf (call0 90 [.str (32 :: 126 :: rest)] .empty) = some (i64 1) ∧ fstOf (call0 90 [.str (32 :: 32 :: 126 :: rest)] .empty) = some (i64 2) := ⟨by kernel_rfl, by kernel_rfl, by kernel_rfl⟩
theorem sk0 : fstOf (call0 90 [.str []] .empty) = some (i64 0) := by kernel_rfl
theorem sk1 : fstOf (call0 90 [.str [32]] .empty) = some (i64 1) := by kernel_rfl
theorem skb0 : ∀ k, k < 13 → ∀ rest, fstOf (call0 90 [.str ((36 + k) :: rest)] .empty) = some (i64 0) ∧ fstOf (call0 90 [.str (32 :: (36 + k) :: rest)] .empty) = some (i64 1) ∧ fstOf (call0 90 [.str (32 :: 32 :: (36 + k) :: rest)] .empty) = some (i64 2)
  | 0, _ => sk36
  | 1, _ => sk37
  | 2, _ => sk38
  | 3, _ => sk39
  | 4, _ => sk40
  | 5, _ => sk41
  | 6, _ => sk42
  | 7, _ => sk43
  | 8, _ => sk44
  | 9, _ => sk45
  | 10, _ => sk46
  | 11, _ => sk47
  | 12, _ => sk48
  | k + 13, h => absurd h (by omega)
theorem skb1 : ∀ k, k < 13 → ∀ rest, fstOf (call0 90 [.str ((49 + k) :: rest)] .empty) = some (i64 0) ∧ fstOf (call0 90 [.str (32 :: (49 + k) :: rest)] .empty) = some (i64 1) ∧ fstOf (call0 90 [.str (32 :: 32 :: (49 + k) :: rest)] .empty) = some (i64 2)
  | 0, _ => sk49
  | 1, _ => sk50
  | 2, _ => sk51
  | 3, _ => sk52
  | 4, _ => sk53
  | 5, _ => sk54
  | 6, _ => sk55
  | 7, _ => sk56
  | 8, _ => sk57
  | 9, _ => sk58
  | 10, _ => sk59
  | 11, _ => sk60
  | 12, _ => sk61
  | k + 13, h => absurd h (by omega)
theorem skb2 : ∀ k, k < 13 → ∀ rest, fstOf (call0 90 [.str ((62 + k) :: rest)] .empty) = some (i64 0) ∧ fstOf (call0 90 [.str (32 :: (62 + k) :: rest)] .empty) = some (i64 1) ∧ fstOf (call0 90 [.str (32 :: 32 :: (62 + k) :: rest)] .empty) = some (i64 2)
  | 0, _ => sk62
  | 1, _ => sk63
  | 2, _ => sk64
  | 3, _ => sk65
  | 4, _ => sk66
  | 5, _ => sk67
  | 6, _ => sk68
  | 7, _ => sk69
  | 8, _ => sk70
  | 9, _ => sk71
  | 10, _ => sk72
  | 11, _ => sk73
  | 12, _ => sk74
  | k + 13, h => absurd h (by omega)
theorem skb3 : ∀ k, k < 13 → ∀ rest, fstOf (call0 90 [.str ((75 + k) :: rest)] .empty) = some (i64 0) ∧ fstOf (call0 90 [.str (32 :: (75 + k) :: rest)] .empty) = some (i64 1) ∧ fstOf (call0 90 [.str (32 :: 32 :: (75 + k) :: rest)] .empty) = some (i64 2)
  | 0, _ => sk75
  | 1, _ => sk76
  | 2, _ => sk77
  | 3, _ => sk78
  | 4, _ => sk79
  | 5, _ => sk80
  | 6, _ => sk81
  | 7, _ => sk82
  | 8, _ => sk83
  | 9, _ => sk84
  | 10, _ => sk85
  | 11, _ => sk86
  | 12, _ => sk87
  | k + 13, h => absurd h (by omega)
theorem skb4 : ∀ k, k < 13 → ∀ rest, fstOf (call0 90 [.str ((88 + k) :: rest)] .empty) = some (i64 0) ∧ fstOf (call0 90 [.str (32 :: (88 + k) :: rest)] .empty) = some (i64 1) ∧ fstOf (call0 90 [.str (32 :: 32 :: (88 + k) :: rest)] .empty) = some (i64 2)
  | 0, _ => sk88
  | 1, _ => sk89
  | 2, _ => sk90
  | 3, _ => sk91
  | 4, _ => sk92
  | 5, _ => sk93
  | 6, _ => sk94
  | 7, _ => sk95
  | 8, _ => sk96
  | 9, _ => sk97
  | 10, _ => sk98
  | 11, _ => sk99
  | 12, _ => sk100
  | k + 13, h => absurd h (by omega)
theorem skb5 : ∀ k, k < 13 → ∀ rest, fstOf (call0 90 [.str ((101 + k) :: rest)] .empty) = some (i64 0) ∧ fstOf (call0 90 [.str (32 :: (101 + k) :: rest)] .empty) = some (i64 1) ∧ fstOf (call0 90 [.str (32 :: 32 :: (101 + k) :: rest)] .empty) = some (i64 2)
  | 0, _ => sk101
  | 1, _ => sk102
  | 2, _ => sk103
  | 3, _ => sk104
  | 4, _ => sk105
  | 5, _ => sk106
  | 6, _ => sk107
  | 7, _ => sk108
  | 8, _ => sk109
  | 9, _ => sk110
  | 10, _ => sk111
  | 11, _ => sk112
  | 12, _ => sk113
  | k + 13, h => absurd h (by omega)
theorem skb6 : ∀ k, k < 13 → ∀ rest, fstOf (call0 90 [.str ((114 + k) :: rest)] .empty) = some (i64 0) ∧ fstOf (call0 90 [.str (32 :: (114 + k) :: rest)] .empty) = some (i64 1) ∧ fstOf (call0 90 [.str (32 :: 32 :: (114 + k) :: rest)] .empty) = some (i64 2)
  | 0, _ => sk114
  | 1, _ => sk115
  | 2, _ => sk116
  | 3, _ => sk117
  | 4, _ => sk118
  | 5, _ => sk119
  | 6, _ => sk120
  | 7, _ => sk121
  | 8, _ => sk122
  | 9, _ => sk123
  | 10, _ => sk124
  | 11, _ => sk125
  | 12, _ => sk126
  | k + 13, h => absurd h (by omega)
theorem skAll (c : Nat) (h : solid c = true) (rest : List Nat) : fstOf (call0 90 [.str (c :: rest)] .empty) = some (i64 0) ∧ fstOf (call0 90 [.str (32 :: c :: rest)] .empty) = some (i64 1) ∧ fstOf (call0 90 [.str (32 :: 32 :: c :: rest)] .empty) = some (i64 2) := by
  rcases solid_cases h with rfl | ⟨h1, h2⟩
  · exact sk33 rest
  rcases Nat.lt_or_ge c 49 with h3 | h3
  · obtain ⟨k, rfl⟩ : ∃ k, c = 36 + k := ⟨c - 36, by omega⟩
    exact skb0 k (by omega) rest
  rcases Nat.lt_or_ge c 62 with h3 | h3
  · obtain ⟨k, rfl⟩ : ∃ k, c = 49 + k := ⟨c - 49, by omega⟩
    exact skb1 k (by omega) rest
  rcases Nat.lt_or_ge c 75 with h3 | h3
  · obtain ⟨k, rfl⟩ : ∃ k, c = 62 + k := ⟨c - 62, by omega⟩
    exact skb2 k (by omega) rest
  rcases Nat.lt_or_ge c 88 with h3 | h3
  · obtain ⟨k, rfl⟩ : ∃ k, c = 75 + k := ⟨c - 75, by omega⟩
    exact skb3 k (by omega) rest
  rcases Nat.lt_or_ge c 101 with h3 | h3
  · obtain ⟨k, rfl⟩ : ∃ k, c = 88 + k := ⟨c - 88, by omega⟩
    exact skb4 k (by omega) rest
  rcases Nat.lt_or_ge c 114 with h3 | h3
  · obtain ⟨k, rfl⟩ : ∃ k, c = 101 + k := ⟨c - 101, by omega⟩
    exact skb5 k (by omega) rest
  obtain ⟨k, rfl⟩ : ∃ k, c = 114 + k := ⟨c - 114, by omega⟩
  exact skb6 k (by omega) rest
end Go.Gh.P
