/-
  The ghost machine: an interpreter over abstract values, and the proof that what it finds the program does. No claim is proved here; no conditions.
-/
import Derived.Test.YthfbndnibpdleaaGreatDoorGhostC
import Derived.Test.YthfbndnibpdleaaGreatDoorGhostA
import Derived.Lib.Index

/-
  THE GHOST MACHINE, THE SWIFT FORM: values and memory, fast.
  No claim is proved here.
-/
namespace Go.Gh
noncomputable section
/-- How many cells? -/
def szF (v : GVal) (n : Nat) : Bool := onAgg v (Nat.beq 1 n) fun c => Nat.beq (lenL c) n
theorem szF_eq (v : GVal) (n : Nat) : szF v n = Nat.beq v.cells.length n := by
  cases v <;> try rfl
  case agg c => show Nat.beq (lenL c) n = _; rw [lenL_eq]; rfl
def noTup (v : GVal) : Bool := onTuple v true fun _ => false
theorem noTup_eq (v : GVal) : noTup v = notTup v := by cases v <;> rfl

/-! ### Numbers -/
def w64 (m : Nat) : GVal := @Bool.rec (fun _ => GVal) (.int .i64 (IntKind.wrap .i64 (.ofNat m))) (.int .i64 (.ofNat m)) (Nat.blt m 9223372036854775808)
theorem w64_eq (m : Nat) : w64 m = .int .i64 (fwrap .i64 (.ofNat m)) := by
  have e : fwrap .i64 (.ofNat m) = bif Nat.blt m 9223372036854775808 then .ofNat m else IntKind.wrap .i64 (.ofNat m) := rfl
  rw [e]; unfold w64
  cases Nat.blt m 9223372036854775808 <;> rfl
/-- Numbers of the common kind that are not below nought go by k; all else as before. -/
def nn (op : BinOp) (x y : GVal) (k : Nat → Nat → GVal) : Option GVal :=
  onInt x (gBin op x y) fun kx a => onI64 kx (gBin op x y) (onNat a (gBin op x y) fun a => onInt y (gBin op x y) fun ky b => onI64 ky (gBin op x y) (onNat b (gBin op x y) fun b => some (k a b)))
/-- The same for numbers of one kind, whichever. -/
def nc (op : BinOp) (x y : GVal) (k : Nat → Nat → Bool) : Option GVal :=
  onInt x (gBin op x y) fun kx a => onNat a (gBin op x y) fun a => onInt y (gBin op x y) fun ky b => onNat b (gBin op x y) fun b => onIf (Nat.beq (kindNo kx) (kindNo ky)) (some (.bool (k a b))) (gBin op x y)
def addF (x y : GVal) : Option GVal := nn .add x y fun a b => w64 (Nat.add a b)
def lssF (x y : GVal) : Option GVal := nc .lss x y fun a b => Nat.blt a b
def leqF (x y : GVal) : Option GVal := nc .leq x y fun a b => Nat.ble a b
def gtrF (x y : GVal) : Option GVal := nc .gtr x y fun a b => Nat.blt b a
def geqF (x y : GVal) : Option GVal := nc .geq x y fun a b => Nat.ble b a
def notF (b : Bool) : Bool := @Bool.rec (fun _ => Bool) true false b
def eqlF (x y : GVal) : Option GVal := onStr x (nc .eql x y fun a b => Nat.beq a b) fun a => onStr y (gBin .eql x y) fun b => some (.bool (natsSame a b))
def neqF (x y : GVal) : Option GVal := onStr x (nc .neq x y fun a b => notF (Nat.beq a b)) fun a => onStr y (gBin .neq x y) fun b => some (.bool (notF (natsSame a b)))
theorem nn_eq {op : BinOp} {x y : GVal} {k : Nat → Nat → GVal} (h : ∀ a b, gBin op (.int .i64 (.ofNat a)) (.int .i64 (.ofNat b)) = some (k a b)) : nn op x y k = gBin op x y := by
  cases x <;> try rfl
  case int kx a =>
    cases kx <;> try rfl
    cases a <;> try rfl
    cases y <;> try rfl
    case int ky b =>
      cases ky <;> try rfl
      cases b <;> try rfl
      exact (h _ _).symm
theorem nc_eq {op : BinOp} {x y : GVal} {k : Nat → Nat → Bool} (h : ∀ kx a b, gBin op (.int kx (.ofNat a)) (.int kx (.ofNat b)) = some (.bool (k a b))) : nc op x y k = gBin op x y := by
  cases x <;> try rfl
  case int kx a =>
    cases a <;> try rfl
    case ofNat a =>
      cases y <;> try rfl
      case int ky b =>
        cases b <;> try rfl
        case ofNat b =>
          show onIf (Nat.beq (kindNo kx) (kindNo ky)) (some (.bool (k a b))) (gBin op (.int kx (.ofNat a)) (.int ky (.ofNat b))) = gBin op (.int kx (.ofNat a)) (.int ky (.ofNat b))
          rw [onIf_eq, ← kindNo_eq]
          by_cases e : kx = ky
          · subst e
            rw [show kindEq kx kx = true by cases kx <;> rfl, h]; rfl
          · rw [show kindEq kx ky = false by revert e; cases kx <;> cases ky <;> intro e <;> first | rfl | exact absurd rfl e]; rfl
theorem blt_not (a b : Nat) : (!Nat.ble b a) = Nat.blt a b := by
  rw [Bool.eq_iff_iff]
  simp only [Bool.not_eq_true', Nat.blt, Nat.ble_eq]
  rw [← Bool.not_eq_true, Nat.ble_eq]; omega
theorem addF_eq (x y : GVal) : addF x y = gBin .add x y := nn_eq fun a b => by rw [w64_eq]; rfl
theorem kk (k : IntKind) : kindEq k k = true := by cases k <;> rfl
theorem lssF_eq (x y : GVal) : lssF x y = gBin .lss x y := nc_eq fun kx a b => by
  show (bif kindEq kx kx then some (GVal.bool (!Nat.ble b a)) else none) = _
  rw [kk, blt_not]; rfl
theorem gtrF_eq (x y : GVal) : gtrF x y = gBin .gtr x y := nc_eq fun kx a b => by
  show (bif kindEq kx kx then some (GVal.bool (!Nat.ble a b)) else none) = _
  rw [kk, blt_not]; rfl
theorem leqF_eq (x y : GVal) : leqF x y = gBin .leq x y := nc_eq fun kx a b => by
  show (bif kindEq kx kx then some (GVal.bool (Nat.ble a b)) else none) = _
  rw [kk]; rfl
theorem geqF_eq (x y : GVal) : geqF x y = gBin .geq x y := nc_eq fun kx a b => by
  show (bif kindEq kx kx then some (GVal.bool (Nat.ble b a)) else none) = _
  rw [kk]; rfl
theorem notF_eq (b : Bool) : notF b = !b := by cases b <;> rfl
theorem eqlF_eq (x y : GVal) : eqlF x y = gBin .eql x y := by
  have h : nc .eql x y (fun a b => Nat.beq a b) = gBin .eql x y := nc_eq fun kx a b => by
    show (bif kindEq kx kx then some (GVal.bool (Nat.beq a b)) else none) = _
    rw [kk]; rfl
  cases x <;> try exact h
  case str a => cases y <;> rfl
theorem neqF_eq (x y : GVal) : neqF x y = gBin .neq x y := by
  have h : nc .neq x y (fun a b => notF (Nat.beq a b)) = gBin .neq x y := nc_eq fun kx a b => by
    show (bif kindEq kx kx then some (GVal.bool (!Nat.beq a b)) else none) = _
    rw [kk, notF_eq]; rfl
  cases x <;> try exact h
  case str a =>
    cases y <;> try rfl
    case str b => show some (GVal.bool (notF (natsSame a b))) = _; rw [notF_eq]; rfl
def gBinF (op : BinOp) (x y : GVal) : Option GVal :=
  match op with
  | .add => addF x y
  | .eql => eqlF x y
  | .neq => neqF x y
  | .lss => lssF x y
  | .leq => leqF x y
  | .gtr => gtrF x y
  | .geq => geqF x y
  | op => gBin op x y
theorem gBinF_eq (op : BinOp) (x y : GVal) : gBinF op x y = gBin op x y := by
  cases op <;> first | rfl | exact addF_eq _ _ | exact eqlF_eq _ _ | exact neqF_eq _ _ | exact lssF_eq _ _ | exact leqF_eq _ _ | exact gtrF_eq _ _ | exact geqF_eq _ _

/-! ### Parts -/
def aggO (r : Option (List GVal)) : Option GVal := @Option.rec (List GVal) (fun _ => Option GVal) none (fun r => some (.agg r)) r
def subE (off n : Nat) (cs : List GVal) : Option (List GVal) := @Option.rec (List GVal) (fun _ => Option (List GVal)) none (fun r => takeE n r) (dropE off cs)
def gPartF (agg : Bool) (cs : List GVal) (off n : Nat) : Option GVal := @Bool.rec (fun _ => Option GVal) (nth cs off) (aggO (subE off n cs)) agg
theorem subE_eq (off n : Nat) (cs : List GVal) : subE off n cs = bif Nat.ble (Nat.add off n) cs.length then some ((cs.drop off).take n) else none := by
  unfold subE
  rw [dropE_eq]
  cases h : Nat.ble off cs.length with
  | false =>
    have : Nat.ble (Nat.add off n) cs.length = false := by
      rw [← Bool.not_eq_true, Nat.ble_eq] at h ⊢
      simp only [Nat.add_eq]; omega
    rw [this]; rfl
  | true =>
    show takeE n (cs.drop off) = _
    rw [takeE_eq]
    have : Nat.ble n (cs.drop off).length = Nat.ble (Nat.add off n) cs.length := by
      rw [Bool.eq_iff_iff, Nat.ble_eq, Nat.ble_eq, List.length_drop]
      have := Nat.le_of_ble_eq_true h
      simp only [Nat.add_eq]; omega
    rw [this]
theorem gPartF_eq (agg : Bool) (cs : List GVal) (off n : Nat) : gPartF agg cs off n = gPart agg cs off n := by
  cases agg with
  | false => rfl
  | true =>
    show aggO (subE off n cs) = _
    rw [subE_eq]
    show _ = bif Nat.ble (Nat.add off n) cs.length then some (GVal.agg ((cs.drop off).take n)) else none
    cases Nat.ble (Nat.add off n) cs.length <;> rfl

def cellsF (v : GVal) : List GVal := onAgg v [v] fun c => c
theorem cellsF_eq (v : GVal) : cellsF v = v.cells := by cases v <;> rfl
def ldO (n : Nat) (agg : Bool) (off : Nat) (b : Option GBlock) : Option GVal := onSome b none fun b => onCells b none fun vals _ _ => gPartF agg vals off n
def loadF (h : GHeap) (n : Nat) (agg : Bool) (a : GVal) : Option GVal :=
  onPtr a (onVptr a none fun v off => gPartF agg (cellsF v) off n) fun k off => ldO n agg off (h.get k)
theorem loadF_eq (h : GHeap) (n : Nat) (agg : Bool) (a : GVal) : loadF h n agg a = loadV h n agg a := by
  cases a <;> try rfl
  case ptr k off =>
    show ldO n agg off (h.get k) = partOf agg off n (cellsOf (h.get k))
    cases h.get k with
    | none => rfl
    | some b =>
      cases b <;> try rfl
      exact gPartF_eq _ _ _ _
  case vptr v off =>
    show gPartF agg (cellsF v) off n = _
    rw [cellsF_eq]; exact gPartF_eq _ _ _ _

def setC (h : GHeap) (k lo : Nat) (gr : Bool) (r : Option (List GVal)) : Option (GVal × GHeap) := @Option.rec (List GVal) (fun _ => Option (GVal × GHeap)) none (fun vs => some (gundef, h.set k (.cells vs lo gr))) r
def stV (h : GHeap) (k off n : Nat) (x : GVal) (vals : List GVal) (lo : Nat) (gr : Bool) : Option (GVal × GHeap) :=
  onAgg x (onTuple x (onIf (Nat.beq 1 n) (onIf (Nat.ble lo off) (setC h k lo gr (setE vals off x)) none) none) fun _ => none)
    fun cs => onIf (Nat.beq (lenL cs) n) (onIf (Nat.ble lo off) (setC h k lo gr (ovl off vals cs)) none) none
def stO (h : GHeap) (k off n : Nat) (x : GVal) (b : Option GBlock) : Option (GVal × GHeap) := onSome b none fun b => onCells b none fun vals lo gr => stV h k off n x vals lo gr
def storeF (h : GHeap) (n : Nat) (a x : GVal) : Option (GVal × GHeap) := onPtr a none fun k off => stO h k off n x (h.get k)
theorem setE_one (vals : List GVal) (off : Nat) (x : GVal) : setE vals off x = ovl off vals [x] := by
  rw [setE_eq, ovl_eq]
  have : Nat.ble (Nat.add off [x].length) vals.length = Nat.blt off vals.length := rfl
  rw [this]
  cases h : Nat.blt off vals.length with
  | false => rfl
  | true =>
    have hl : off < vals.length := Nat.le_of_ble_eq_true h
    rw [show setAt vals off x = vals.take off ++ [x] ++ vals.drop (Nat.add off [x].length) from ?_]
    clear h this
    induction vals generalizing off with
    | nil => simp at hl
    | cons a t ih =>
      cases off with
      | zero => rfl
      | succ off => exact congrArg (a :: ·) (ih off (by simpa using hl))
theorem storeF_eq (h : GHeap) (n : Nat) (a x : GVal) : storeF h n a x = gStoreE h n a x := by
  cases a <;> try rfl
  case ptr k off =>
    have key : ∀ (cs : List GVal) (vals : List GVal) (lo : Nat) (gr : Bool), @Bool.rec (fun _ => Option (GVal × GHeap)) none (@Bool.rec (fun _ => Option (GVal × GHeap)) none (setC h k lo gr (ovl off vals cs)) (Nat.ble lo off)) (Nat.beq cs.length n) =
        (match stCells h k off n cs vals lo gr with | some h => some (gundef, h) | none => none) := by
      intro cs vals lo gr
      unfold stCells
      rw [ovl_eq]
      cases h1 : Nat.beq cs.length n with
      | false => rfl
      | true =>
        have := Nat.eq_of_beq_eq_true h1
        subst this
        cases Nat.ble lo off with
        | false => rw [Bool.and_false]; rfl
        | true =>
          rw [Bool.and_true, Bool.true_and]
          cases Nat.ble (Nat.add off cs.length) vals.length <;> rfl
    have hR : gStoreE h n (.ptr k off) x = (match (bif notTup x then stBlock h k off n x.cells (h.get k) else none) with | some h => some (gundef, h) | none => none) := rfl
    rw [hR]
    show stO h k off n x (h.get k) = _
    generalize h.get k = g
    cases g with
    | none => cases notTup x <;> rfl
    | some b =>
      cases b with
      | cells vals lo gr =>
        have one : ∀ x : GVal, x.cells = [x] → notTup x = true → stV h k off n x vals lo gr = @Bool.rec (fun _ => Option (GVal × GHeap)) none (@Bool.rec (fun _ => Option (GVal × GHeap)) none (setC h k lo gr (setE vals off x)) (Nat.ble lo off)) (Nat.beq 1 n) →
            stV h k off n x vals lo gr = (match (bif notTup x then stBlock h k off n x.cells (some (.cells vals lo gr)) else none) with | some h => some (gundef, h) | none => none) := by
          intro x h1 h2 h3
          rw [h3, setE_one, h1, h2]
          exact key [x] vals lo gr
        show stV h k off n x vals lo gr = _
        cases x with
        | tuple l => rfl
        | agg cs =>
          have e : stV h k off n (.agg cs) vals lo gr = @Bool.rec (fun _ => Option (GVal × GHeap)) none (@Bool.rec (fun _ => Option (GVal × GHeap)) none (setC h k lo gr (ovl off vals cs)) (Nat.ble lo off)) (Nat.beq (lenL cs) n) := rfl
          rw [e, lenL_eq]
          exact key cs vals lo gr
        | _ => exact one _ rfl rfl rfl
      | _ => cases notTup x <;> rfl

def fillV (v : GVal) (n off : Nat) (cs : List GVal) : Option (List GVal) :=
  onAgg v (onTuple v (onIf (Nat.beq 1 n) (setE cs off v) none) fun _ => none) fun c => onIf (Nat.beq (lenL c) n) (ovl off cs c) none
def fillF (ps : List (Nat × Nat × GVal)) : List GVal → Option (List GVal) :=
  @List.rec (Nat × Nat × GVal) (fun _ => List GVal → Option (List GVal)) (fun cs => some cs) (fun p _ ih cs => onSome (fillV p.2.2 p.2.1 p.1 cs) none ih) ps
def buildF (zero : List GVal) (parts : List (Nat × Nat × GVal)) : Option GVal := aggO (fillF parts zero)
theorem fillV_eq (v : GVal) (n off : Nat) (cs : List GVal) : fillV v n off cs = bif notTup v && Nat.beq v.cells.length n && Nat.ble (Nat.add off n) cs.length then some (splice cs off v.cells) else none := by
  have key : ∀ (c : List GVal), @Bool.rec (fun _ => Option (List GVal)) none (ovl off cs c) (Nat.beq c.length n) = bif Nat.beq c.length n && Nat.ble (Nat.add off n) cs.length then some (splice cs off c) else none := by
    intro c
    rw [ovl_eq]
    cases h1 : Nat.beq c.length n with
    | false => rfl
    | true =>
      have := Nat.eq_of_beq_eq_true h1
      subst this
      rw [Bool.true_and]
      rfl
  have one : ∀ v : GVal, v.cells = [v] → notTup v = true → fillV v n off cs = @Bool.rec (fun _ => Option (List GVal)) none (setE cs off v) (Nat.beq 1 n) → fillV v n off cs = bif notTup v && Nat.beq v.cells.length n && Nat.ble (Nat.add off n) cs.length then some (splice cs off v.cells) else none := by
    intro v h1 h2 h3
    rw [h3, setE_one, h1, h2]
    exact key [v]
  cases v with
  | tuple l => rfl
  | agg c =>
    have := key c
    rw [← lenL_eq] at this
    show @Bool.rec (fun _ => Option (List GVal)) none (ovl off cs c) (Nat.beq (lenL c) n) = _
    rw [this, lenL_eq]; rfl
  | _ => exact one _ rfl rfl rfl
theorem gFill_fillF (ev : Ev) : ∀ (ps : List (Nat × Nat × GArg)) (cs : List GVal), fillF (ps.map fun p => (p.1, p.2.1, ev p.2.2)) cs = gFill ev ps cs := by
  intro ps
  induction ps with
  | nil => intro cs; rfl
  | cons p ps ih =>
    intro cs
    show @Option.rec (List GVal) (fun _ => Option (List GVal)) none (fun cs => fillF (ps.map fun p => (p.1, p.2.1, ev p.2.2)) cs) (fillV (ev p.2.2) p.2.1 p.1 cs) = _
    rw [fillV_eq, gFill]
    cases notTup (ev p.2.2) && Nat.beq (ev p.2.2).cells.length p.2.1 && Nat.ble (Nat.add p.1 p.2.1) cs.length with
    | false => rfl
    | true => exact ih _

def fillEls (esz : Nat) (ps : List (Nat × GVal)) : List GVal → Option (List GVal) :=
  @List.rec (Nat × GVal) (fun _ => List GVal → Option (List GVal)) (fun cs => some cs) (fun p _ ih cs => onIf (onIf (noTup p.2) (szF p.2 esz) false) (onSome (setE cs p.1 p.2) none ih) none) ps
def vslC (r : Option (List GVal)) : Option GVal := @Option.rec (List GVal) (fun _ => Option GVal) none (fun l => some (.vsl l .clip)) r
def repL (n : Nat) (v : GVal) : List GVal := @Nat.rec (fun _ => List GVal) [] (fun _ ih => v :: ih) n
theorem repL_eq (n : Nat) (v : GVal) : repL n v = List.replicate n v := by
  induction n with
  | zero => rfl
  | succ n ih => show v :: repL n v = _; rw [ih]; rfl
def buildSlF (zero : GVal) (esz n : Nat) (parts : List (Nat × GVal)) : Option GVal :=
  onIf (onIf (noTup zero) (szF zero esz) false) (vslC (fillEls esz parts (repL n zero))) none
theorem gFillEls_fillEls (ev : Ev) (esz : Nat) : ∀ (ps : List (Nat × GArg)) (cs : List GVal), fillEls esz (ps.map fun p => (p.1, ev p.2)) cs = gFillEls ev esz ps cs := by
  intro ps
  induction ps with
  | nil => intro cs; rfl
  | cons p ps ih =>
    intro cs
    show onIf (onIf (noTup (ev p.2)) (szF (ev p.2) esz) false) (onSome (setE cs p.1 (ev p.2)) none fun cs => fillEls esz (ps.map fun p => (p.1, ev p.2)) cs) none = _
    rw [setE_eq, szF_eq, noTup_eq, gFillEls]
    cases notTup (ev p.2) with
    | false => rfl
    | true =>
      cases Nat.beq (ev p.2).cells.length esz with
      | false => rfl
      | true =>
        cases Nat.blt p.1 cs.length with
        | false => rfl
        | true => exact ih _
end
end Go.Gh

/-
  THE GHOST MACHINE, THE SWIFT FORM: slices and texts, fast; the operations.
  No claim is proved here.
-/
namespace Go.Gh
noncomputable section
def natK {β : Type} (v : GVal) (k : Nat → Option β) : Option β := onInt v none fun _ a => onNat a none k
def strO (r : Option (List Nat)) : Option GVal := onSome r none fun l => some (.str l)
def hiF (s : List Nat) (hi : Option GVal) : Option (List Nat) := onSome hi (some s) fun v => natK v fun n => takeE n s
def loF (lo : Option GVal) (s : List Nat) : Option (List Nat) := onSome lo (some s) fun v => natK v fun n => dropE n s
def slF (s : List Nat) (lo hi : Option GVal) : Option GVal := strO (onSome (hiF s hi) none fun t => loF lo t)
def sliceStrF (x : GVal) (lo hi : Option GVal) : Option GVal := onStr x none fun s => slF s lo hi

theorem natK_bound (v : GVal) (n : Nat) : natK v (fun i => bif Nat.ble i n then some i else none) = bound? v n := by
  cases v with
  | int k a => cases a <;> rfl
  | _ => rfl
theorem hiF_eq (s : List Nat) (hi : Option GVal) : hiF s hi = (match hiOf hi s.length with | some h => some (s.take h) | none => none) := by
  cases hi with
  | none => show some s = some (s.take s.length); rw [List.take_length]
  | some v =>
    cases v with
    | int k a =>
      cases a with
      | ofNat n =>
        show takeE n s = (match (bif Nat.ble n s.length then some n else none) with | some h => some (s.take h) | none => none)
        rw [takeE_eq]
        cases Nat.ble n s.length <;> rfl
      | negSucc n => rfl
    | _ => rfl
theorem loF_eq (s : List Nat) (lo : Option GVal) : loF lo s = (match loOf lo s.length with | some l => some (s.drop l) | none => none) := by
  cases lo with
  | none => rfl
  | some v =>
    cases v with
    | int k a =>
      cases a with
      | ofNat n =>
        show dropE n s = (match (bif Nat.ble n s.length then some n else none) with | some h => some (s.drop h) | none => none)
        rw [dropE_eq]
        cases Nat.ble n s.length <;> rfl
      | negSucc n => rfl
    | _ => rfl
theorem hiOf_le {hi : Option GVal} {n h : Nat} (e : hiOf hi n = some h) : h ≤ n := by
  unfold hiOf at e
  split at e
  · cases e; exact Nat.le_refl _
  · rename_i v
    unfold bound? at e
    split at e
    · rename_i i
      cases hb : Nat.ble i n with
      | true => rw [hb] at e; cases e; exact Nat.le_of_ble_eq_true hb
      | false => rw [hb] at e; cases e
    · cases e
theorem sliceStrF_eq (x : GVal) (lo hi : Option GVal) : sliceStrF x lo hi = bif isStr x then gSlice 1 x lo hi none else none := by
  cases x <;> try rfl
  case str s =>
    show slF s lo hi = gSlice 1 (.str s) lo hi none
    unfold slF gSlice
    rw [hiF_eq]
    show _ = match hiOf hi s.length with | none => none | some h => _
    cases hh : hiOf hi s.length with
    | none => rfl
    | some h =>
      have hle := hiOf_le hh
      show strO (loF lo (s.take h)) = match loOf lo h with | none => none | some l => gSliceAt 1 (.str s) l h none
      rw [loF_eq, List.length_take, Nat.min_eq_left hle]
      cases loOf lo h with
      | none => rfl
      | some l =>
        show some (GVal.str ((s.take h).drop l)) = some (.str ((s.drop l).take (Nat.sub h l)))
        rw [List.drop_take]; rfl

def vptrF (esz : Nat) (r : Option GVal) : Option GVal := onSome r none fun v => onIf (szF v esz) (some (.vptr v 0)) none
def ixSF (esz : Nat) (x i : GVal) : Option GVal := onVsl x (ixS esz x i) fun els _ => natK i fun j => vptrF esz (nth els j)
theorem nth_none {α : Type} {l : List α} {i : Nat} (h : Nat.blt i l.length = false) : nth l i = none := by
  induction l generalizing i with
  | nil => rfl
  | cons a l ih =>
    cases i with
    | zero => cases h
    | succ i => exact ih h
theorem ixSF_eq (esz : Nat) (x i : GVal) : ixSF esz x i = ixS esz x i := by
  cases x <;> try rfl
  case vsl els t =>
    show natK i (fun j => vptrF esz (nth els j)) = elAddr esz els (idx? i els.length)
    cases i with
    | int k a =>
      cases a with
      | ofNat j =>
        show vptrF esz (nth els j) = elAddr esz els (bif Nat.blt j els.length then some j else none)
        cases hb : Nat.blt j els.length with
        | false => rw [nth_none hb]; rfl
        | true =>
          show _ = (match nth els j with | some v => bif Nat.beq v.cells.length esz then some (GVal.vptr v 0) else none | none => none)
          cases nth els j with
          | none => rfl
          | some v =>
            show onIf (szF v esz) (some (GVal.vptr v 0)) none = bif Nat.beq v.cells.length esz then some (GVal.vptr v 0) else none
            rw [szF_eq]
            cases Nat.beq v.cells.length esz <;> rfl
      | negSucc j => rfl
    | _ => rfl
def byteO (r : Option Nat) : Option GVal := onSome r none fun b => some (.int .u8 (.ofNat b))
def ixStrF (x i : GVal) : Option GVal := onStr x none fun s => natK i fun j => byteO (nth s j)
theorem ixStrF_eq (x i : GVal) : ixStrF x i = ixStrV x i := by
  cases x <;> try rfl
  case str s =>
    show natK i (fun j => byteO (nth s j)) = byteAt s (idx? i s.length)
    cases i with
    | int k a =>
      cases a with
      | ofNat j =>
        show byteO (nth s j) = byteAt s (bif Nat.blt j s.length then some j else none)
        cases hb : Nat.blt j s.length with
        | false => rw [nth_none hb]; rfl
        | true =>
          show _ = (match nth s j with | some b => some (GVal.int .u8 (Int.ofNat b)) | none => none)
          cases nth s j <;> rfl
      | negSucc j => rfl
    | _ => rfl
def lenF (str : Bool) (x : GVal) : Option GVal :=
  onStr x (onVsl x (bif str == isStr x then (match lenOf x with | some n => some (.int .i64 (.ofNat n)) | none => none) else none) fun els _ => onIf str none (some (.int .i64 (.ofNat (lenL els)))))
    fun s => onIf str (some (.int .i64 (.ofNat (lenL s)))) none
theorem lenF_eq (str : Bool) (x : GVal) : lenF str x = bif str == isStr x then (match lenOf x with | some n => some (.int .i64 (.ofNat n)) | none => none) else none := by
  cases x <;> try rfl
  case str s =>
    show onIf str (some (GVal.int .i64 (.ofNat (lenL s)))) none = _
    rw [lenL_eq]; cases str <;> rfl
  case vsl els t =>
    show onIf str none (some (GVal.int .i64 (.ofNat (lenL els)))) = _
    rw [lenL_eq]; cases str <;> rfl
def fieldF (off n : Nat) (agg : Bool) (v : GVal) : Option GVal := onAgg v none fun cs => gPartF agg cs off n
theorem fieldF_eq (off n : Nat) (agg : Bool) (v : GVal) : fieldF off n agg v = aggPart off n agg v := by
  cases v <;> try rfl
  exact gPartF_eq _ _ _ _
def boxF (h : GHeap) (n : Nat) (x : GVal) : Option (GVal × GHeap) :=
  onAgg x (onTuple x (onIf (Nat.beq 1 n) (some (.ptr h.n 0, h.push (.cells [x] 0 false))) none) fun _ => none)
    fun c => onIf (Nat.beq (lenL c) n) (some (.ptr h.n 0, h.push (.cells c 0 false))) none
theorem boxF_eq (h : GHeap) (n : Nat) (x : GVal) : boxF h n x = gBox h n x := by
  have key : ∀ c : List GVal, @Bool.rec (fun _ => Option (GVal × GHeap)) none (some (.ptr h.n 0, h.push (.cells c 0 false))) (Nat.beq c.length n) = bif Nat.beq c.length n then some (.ptr h.n 0, h.push (.cells c 0 false)) else none := by
    intro c; cases Nat.beq c.length n <;> rfl
  cases x with
  | tuple l => rfl
  | agg c =>
    show @Bool.rec (fun _ => Option (GVal × GHeap)) none (some (.ptr h.n 0, h.push (.cells c 0 false))) (Nat.beq (lenL c) n) = _
    rw [lenL_eq]
    exact key c
  | _ => exact key [_]
def allSzF (esz : Nat) (l : List GVal) : Bool := @List.rec GVal (fun _ => Bool) true (fun v _ ih => onIf (szF v esz) ih false) l
theorem allSzF_eq (esz : Nat) (l : List GVal) : allSzF esz l = allSz esz l := by
  induction l with
  | nil => rfl
  | cons v l ih =>
    show onIf (szF v esz) (allSzF esz l) false = (Nat.beq v.cells.length esz && allSz esz l)
    rw [ih, szF_eq]
    cases Nat.beq v.cells.length esz <;> rfl
def headSzF (els : List GVal) (esz : Nat) : Bool := @List.rec GVal (fun _ => Bool) true (fun e _ _ => szF e esz) els
theorem headSzF_eq (els : List GVal) (esz : Nat) : headSzF els esz = headSz els esz := by
  cases els with
  | nil => rfl
  | cons e _ => exact szF_eq e esz
def pushTip (esz : Nat) (els : List GVal) (r : Option GHeap) : Option (GVal × GHeap) := onSome r none fun h => some (.vsl els (.tip h.n esz), h.push (.tip true))
def appF (h : GHeap) (esz bytes : Nat) (new els : List GVal) (tok : Tok) : Option (GVal × GHeap) :=
  match new with
  | [] => some (.vsl els tok, h)
  | v :: r => bif Nat.ble (Nat.mul (Nat.add (lenL els) (lenL (v :: r))) bytes) maxRoom && headSzF els esz && tokSz tok esz then pushTip esz (appL els (v :: r)) (killTok h tok) else none
theorem appF_eq (h : GHeap) (esz bytes : Nat) (new els : List GVal) (tok : Tok) : appF h esz bytes new els tok = appVsl h esz bytes false new els tok := by
  cases new with
  | nil => rfl
  | cons v r =>
    unfold appF appVsl
    simp only [lenL_eq, headSzF_eq, appL_eq]
    show _ = bif Nat.ble (Nat.mul (Nat.add els.length (v :: r).length) bytes) maxRoom && headSz els esz && tokSz tok esz then _ else none
    cases Nat.ble (Nat.mul (Nat.add els.length (v :: r).length) bytes) maxRoom && headSz els esz && tokSz tok esz with
    | false => rfl
    | true =>
      show pushTip esz (els ++ v :: r) (killTok h tok) = match killTok h tok with | none => none | some h => some (.vsl (els ++ v :: r) (.tip h.n esz), h.push (.tip true))
      cases killTok h tok <;> rfl
def appendF (h : GHeap) (esz bytes : Nat) (agg heap : Bool) (s x : GVal) : Option (GVal × GHeap) :=
  onVsl s (gAppend h esz bytes agg heap s x) fun els tok =>
    onIf heap (gAppend h esz bytes agg heap s x) (onVsl x (gAppend h esz bytes agg heap s x) fun new _ => onIf (allSzF esz new) (appF h esz bytes new els tok) none)
theorem appendF_eq (h : GHeap) (esz bytes : Nat) (agg heap : Bool) (s x : GVal) : appendF h esz bytes agg heap s x = gAppend h esz bytes agg heap s x := by
  cases s <;> try rfl
  case vsl els tok =>
    cases heap with
    | true => rfl
    | false =>
      cases x <;> try rfl
      case vsl new t =>
        show onIf (allSzF esz new) (appF h esz bytes new els tok) none = bif allSz esz new then appVsl h esz bytes false new els tok else none
        rw [allSzF_eq, appF_eq]
        cases allSz esz new <;> rfl
def catF (x y : GVal) : Option GVal := onStr x (addF x y) fun a => onStr y (gBin .add x y) fun b => onIf (Nat.ble (Nat.add (lenL a) (lenL b)) maxStr) (some (.str (appL a b))) none
theorem catF_eq (x y : GVal) : catF x y = gBin .add x y := by
  have h := addF_eq x y
  cases x <;> try exact h
  case str a =>
    cases y <;> try rfl
    case str b =>
      show onIf (Nat.ble (Nat.add (lenL a) (lenL b)) maxStr) (some (GVal.str (appL a b))) none = bif Nat.ble (Nat.add a.length b.length) maxStr then some (GVal.str (a ++ b)) else none
      rw [lenL_eq, lenL_eq, appL_eq]
      cases Nat.ble (Nat.add a.length b.length) maxStr <;> rfl
def binF (op : BinOp) (x y : GVal) : Option GVal := match op with | .add => catF x y | op => gBinF op x y
theorem binF_eq (op : BinOp) (x y : GVal) : binF op x y = gBin op x y := by
  cases op
  case add => exact catF_eq x y
  all_goals (simp only [binF]; exact gBinF_eq _ _ _)

def pickF (v a b : GVal) : Option GVal := onBool v none fun c => some (onIf c a b)
theorem pickF_eq (v a b : GVal) : pickF v a b = pickB v a b := by
  cases v <;> try rfl
  case bool c => cases c <;> rfl
def fieldAF (off : Nat) (v : GVal) : Option GVal := onPtr v (onVptr v none fun u o => some (.vptr u (Nat.add o off))) fun k o => some (.ptr k (Nat.add o off))
theorem fieldAF_eq (off : Nat) (v : GVal) : fieldAF off v = fieldA off v := by cases v <;> rfl
def nilChkF (v : GVal) : Option GVal := onPtr v (onVptr v (nilChk v) fun u o => some (.vptr u o)) fun k o => some (.ptr k o)
theorem nilChkF_eq (v : GVal) : nilChkF v = nilChk v := by cases v <;> rfl
def extrF (i : Nat) (v : GVal) : Option GVal := onTuple v none fun vs => nth vs i
theorem extrF_eq (i : Nat) (v : GVal) : extrF i v = extr i v := by cases v <;> rfl
def unF (op : UnOp) (v : GVal) : Option GVal := match op with | .not => onBool v none fun b => some (.bool (notF b)) | op => gUn op v
theorem unF_eq (op : UnOp) (v : GVal) : unF op v = gUn op v := by
  cases op <;> try rfl
  cases v <;> try rfl
  case bool b => cases b <;> rfl

/-! ### The operations -/
def gPureF (o : POp) (ev : Ev) : Option GVal :=
  match o with
  | .bin op x y => binF op (ev x) (ev y)
  | .build z ps => buildF z (ps.map fun p => (p.1, p.2.1, ev p.2.2))
  | .buildSl z e n ps => buildSlF z e n (ps.map fun p => (p.1, ev p.2))
  | .field o n g x => fieldF o n g (ev x)
  | .ixAddrS e x i => ixSF e (ev x) (ev i)
  | .ixStr x i => ixStrF (ev x) (ev i)
  | .sliceStr x l h => sliceStrF (ev x) (l.map ev) (h.map ev)
  | .len s x => lenF s (ev x)
  | .pick c a b => pickF (ev c) (ev a) (ev b)
  | .fieldAddr o x => fieldAF o (ev x)
  | .nilCheck x => nilChkF (ev x)
  | .extract i x => extrF i (ev x)
  | .un op x => unF op (ev x)
  | o => gPure o ev
theorem gPureF_eq (o : POp) (ev : Ev) : gPureF o ev = gPure o ev := by
  cases o <;> try rfl
  case bin op x y => exact binF_eq _ _ _
  case build z ps =>
    show aggO (fillF (ps.map fun p => (p.1, p.2.1, ev p.2.2)) z) = match gFill ev ps z with | some l => some (.agg l) | none => none
    rw [gFill_fillF]
    cases gFill ev ps z <;> rfl
  case buildSl z e n ps =>
    show onIf (onIf (noTup z) (szF z e) false) (vslC (fillEls e (ps.map fun p => (p.1, ev p.2)) (repL n z))) none = bif notTup z && Nat.beq z.cells.length e then (match gFillEls ev e ps (List.replicate n z) with | some l => some (.vsl l .clip) | none => none) else none
    rw [gFillEls_fillEls, repL_eq, noTup_eq, szF_eq]
    cases notTup z <;> cases Nat.beq z.cells.length e <;> cases gFillEls ev e ps (List.replicate n z) <;> rfl
  case field o n g x => exact fieldF_eq _ _ _ _
  case ixAddrS e x i => exact ixSF_eq _ _ _
  case ixStr x i => exact ixStrF_eq _ _
  case sliceStr x l h => exact sliceStrF_eq _ _ _
  case len s x => exact lenF_eq _ _
  case pick c a b => exact pickF_eq _ _ _
  case fieldAddr o x => exact fieldAF_eq _ _
  case nilCheck x => exact nilChkF_eq _
  case extract i x => exact extrF_eq _ _
  case un op x => exact unF_eq _ _
def gReadF (o : ROp) (h : GHeap) (ev : Ev) : Option GVal := match o with | .load n g a => loadF h n g (ev a) | o => gRead o h ev
theorem gReadF_eq (o : ROp) (h : GHeap) (ev : Ev) : gReadF o h ev = gRead o h ev := by
  cases o <;> try rfl
  exact loadF_eq _ _ _ _
def gEffF (E : GEnv) (call : CallF) (h : GHeap) (ev : Ev) (o : EOp) : Option (GVal × GHeap) :=
  match o with
  | .store n a x => storeF h n (ev a) (ev x)
  | .append e b g hp s x => appendF h e b g hp (ev s) (ev x)
  | .box n x => boxF h n (ev x)
  | o => gEff E call h ev o
theorem gEffF_eq (E : GEnv) (call : CallF) (h : GHeap) (ev : Ev) (o : EOp) : gEffF E call h ev o = gEff E call h ev o := by
  cases o <;> try rfl
  case store n a x => exact storeF_eq _ _ _ _
  case append e b g hp s x => exact appendF_eq _ _ _ _ _ _ _
  case box n x => exact boxF_eq _ _ _
end
end Go.Gh

/-
  THE GHOST MACHINE, THE SWIFT FORM: the same code with its slots as an environment that is known beforehand, so that each function can be written out as one Lean term.
  No claim is proved here.
-/
namespace Go.Gh
noncomputable section

abbrev Env := List (Pth × GVal)
def lk (p : Pth) : Env → Option GVal
  | [] => none
  | q :: r => bif Pth.same p q.1 then some q.2 else lk p r
def toTr : Env → GFr
  | [] => .nil
  | q :: r => Tr.set q.2 q.1 (toTr r)
def evE (e : Env) : Ev := fun a => match a with | .const v => v | .tmp p => (match lk p e with | some v => v | none => gundef)
def hasE (e : Env) (p : Pth) : Bool := match lk p e with | some _ => true | none => false
def okL (e : Env) : List Pth → Bool
  | [] => true
  | p :: r => hasE e p && okL e r

inductive SOut where
  | normal (vs : List GVal) (h : GHeap)
  | exit (i : Nat) (vs : List GVal) (h : GHeap)
  | goto (l : Nat) (vs : List GVal) (h : GHeap)
  | ret (v : GVal) (h : GHeap)
abbrev SRes := Option SOut
abbrev SK := Env → GHeap → SRes

/-- An operation; operations under one guard, and which of their slots are looked at behind them. -/
inductive SItem where
  | one (o : GOper)
  | grp (g : Pth) (b : Bool) (L : List Pth) (l : List GOper)
def flat1 : SItem → List GOper
  | .one o => [o]
  | .grp _ _ _ l => l
def flatI : List SItem → List GOper
  | [] => []
  | i :: r => flat1 i ++ flatI r

inductive SCode where
  | skip
  | ops (l : List GOper)
  | items (l : List SItem)
  | drawI (l : List SItem)
  | draw (chk : List (Nat × Nat)) (sw : Option (Nat × Nat)) (l : List GOper)
  | fz (t : Pth) (esz : Nat) (agg : Bool) (at_ : Option GArg)
  | seq (a b : SCode)
  | cond (c : GArg) (a b : SCode)
  | join (L : List Pth) (c : SCode)
  | block (id : Nat) (L : List Pth) (c : SCode)
  | loop (L : List Pth) (c : SCode)
  | exit (id : Nat)
  | scope (c : SCode) (l : Nat) (Lg : List Pth) (rest : SCode) (La : List Pth)
  | label (l : Nat)
  | goto (l : Nat)
  | ret
  | refuse

def SCode.erase : SCode → GCode
  | .skip => .skip
  | .ops l => .ops l
  | .items l => .ops (flatI l)
  | .drawI l => .draw [] none (flatI l)
  | .draw c s l => .draw c s l
  | .fz t e g a => .fz t e g a
  | .seq a b => .seq a.erase b.erase
  | .cond c a b => .cond c a.erase b.erase
  | .join _ c => c.erase
  | .block i _ c => .block i c.erase
  | .loop _ c => .loop c.erase
  | .exit i => .exit i
  | .scope c l _ r _ => .scope c.erase l r.erase
  | .label l => .label l
  | .goto l => .goto l
  | .ret => .ret
  | .refuse => .refuse

def dstL : Option Pth → List Pth | some p => [p] | none => []
def dstsL : List GOper → List Pth
  | [] => []
  | o :: r => dstL o.dst ++ dstsL r
/-- The slots that a piece of code may write. -/
def writes : SCode → List Pth
  | .ops l => dstsL l
  | .items l => dstsL (flatI l)
  | .drawI l => dstsL (flatI l)
  | .draw _ _ l => dstsL l
  | .fz t _ _ _ => [t]
  | .seq a b => writes a ++ writes b
  | .cond _ a b => writes a ++ writes b
  | .join _ c => writes c
  | .block _ _ c => writes c
  | .loop _ c => writes c
  | .scope c _ _ r _ => writes c ++ writes r
  | _ => []

def bnd {α β : Type} (x : Option α) (k : α → Option β) : Option β := @Option.rec α (fun _ => Option β) none k x
def bnd2 {β : Type} (x : Option (GVal × GHeap)) (k : GVal → GHeap → Option β) : Option β := @Option.rec (GVal × GHeap) (fun _ => Option β) none (fun p => @Prod.rec GVal GHeap (fun _ => Option β) k p) x

def bindD (d : Option Pth) (v : GVal) (e : Env) : Env := match d with | some p => (p, v) :: e | none => e

section
variable (E : GEnv) (call : CallF)
def sDo (o : GOp) (e : Env) (h : GHeap) (k : GVal → GHeap → SRes) : SRes :=
  match o with
  | .p o => bnd (gPureF o (evE e)) fun v => k v h
  | .r o => bnd (gReadF o h (evE e)) fun v => k v h
  | .e o => bnd2 (gEffF E call h (evE e) o) k
def sOpv (o : GOp) (e : Env) (h : GHeap) : Option (GVal × GHeap) :=
  match o with
  | .p o => bnd (gPureF o (evE e)) fun v => some (v, h)
  | .r o => bnd (gReadF o h (evE e)) fun v => some (v, h)
  | .e o => gEffF E call h (evE e) o
def guardF (v : GVal) (w : Bool) : Bool := onBool v false fun b => onIf w b (onIf b false true)
def gdo (v : GVal) (b : Bool) (A B : Option (GVal × GHeap)) : Option (GVal × GHeap) := onIf (guardF v b) A B
def sStep (o : GOper) (e : Env) (h : GHeap) (k : Env → GHeap → SRes) : SRes :=
  bif okL e o.looks then
    match o.guard with
    | none => sDo E call o.op e h fun v h => k (bindD o.dst v e) h
    | some g => bnd2 (gdo (evE e (.tmp g.1)) g.2 (sOpv E call o.op e h) (some (gundef, h))) fun v h => k (bindD o.dst v e) h
  else none
def sOps : List GOper → Env → GHeap → SK → SRes
  | [], e, h, k => k e h
  | o :: r, e, h, k => sStep E call o e h fun e h => sOps r e h k
def sOpsT : List GOper → Env → GHeap → List GHeap → (Env → GHeap → List GHeap → SRes) → SRes
  | [], e, h, hs, k => k e h (hs ++ [h])
  | o :: r, e, h, hs, k => sStep E call o e h fun e h' => sOpsT r e h' (hs ++ [h]) k

def gIf (v : GVal) (b : Bool) (A B : SRes) : SRes := onIf (guardF v b) A B
def sStepU (o : GOper) (e : Env) (h : GHeap) (k : Env → GHeap → SRes) : SRes :=
  bif okL e o.op.slots then sDo E call o.op e h fun v h => k (bindD o.dst v e) h else none
def sOpsU : List GOper → Env → GHeap → SK → SRes
  | [], e, h, k => k e h
  | o :: r, e, h, k => sStepU E call o e h fun e h => sOpsU r e h k
/-- All have that guard, and none writes it. -/
def allG (g : Pth) (b : Bool) : List GOper → Bool
  | [] => true
  | o :: r => (match o.guard with | some p => Pth.same p.1 g && (p.2 == b) | none => false) && (match o.dst with | some d => !Pth.same d g | none => true) && allG g b r
def subL (L M : List Pth) : Bool :=
  match L with
  | [] => true
  | p :: r => hasP p M && subL r M
def undefs : List Pth → List GVal
  | [] => []
  | _ :: r => gundef :: undefs r
def looksL : List GOper → List Pth
  | [] => []
  | o :: r => o.looks ++ (dstL o.dst ++ looksL r)
def ptrK (v : GVal) : Option Nat := match v with | .ptr k _ => some k | _ => none
def chkV (x : Option GVal) (v : GVal) : Bool := match x with | some u => u.same v | none => false
def sChkOne (all : List GOper) (e : Env) (hs : List GHeap) (r c : Nat) : Bool :=
  match nth all r with
  | some ro =>
    match ro.dst, nth hs (bif Nat.blt c r then c else Nat.succ c) with
    | some d, some h =>
      match ro.guard with
      | none => chkV (readAgain ro.op h (evE e)) (evE e (.tmp d))
      | some g => bif guardIs (evE e (.tmp g.1)) g.2 then chkV (readAgain ro.op h (evE e)) (evE e (.tmp d)) else true
    | _, _ => match ro.guard with
      | none => false
      | some g => bif guardIs (evE e (.tmp g.1)) g.2 then false else true
  | none => false
def sChkAll (all : List GOper) (e : Env) (hs : List GHeap) : List (Nat × Nat) → Bool
  | [] => true
  | p :: rest => sChkOne all e hs p.1 p.2 && sChkAll all e hs rest
def storeV (o : GOper) (e : Env) : Option Nat :=
  match o.guard with
  | some _ => none
  | none =>
    match o.op with
    | .e (.store _ a _) => ptrK (evE e a)
    | _ => none
def swV (x y : Option Nat) : Bool := match x, y with | some k, some l => !Nat.beq k l | _, _ => false
def sChkSw (all : List GOper) (e : Env) (sw : Option (Nat × Nat)) : Bool :=
  match sw with
  | none => true
  | some p =>
    match nth all p.1, nth all p.2 with
    | some a, some b => swV (storeV a e) (storeV b e)
    | _, _ => false
def guardS (b : Bool) (r : SRes) : SRes := onIf b r none
def sDraw (chk : List (Nat × Nat)) (sw : Option (Nat × Nat)) (l : List GOper) (e : Env) (h : GHeap) (k : SK) : SRes :=
  sOpsT E call l e h [] fun e' h' hs => bif okL e' (looksL l) then guardS (sChkAll l e' hs chk && sChkSw l e' sw) (k e' h') else none

def sFz (t : Pth) (esz : Nat) (agg : Bool) (at_ : Option GArg) (e : Env) (h : GHeap) (k : SK) : SRes :=
  bif okL e (t :: slO at_) then
    bnd2 (gFreeze h esz agg (evE e (.tmp t))) fun v h' =>
      match at_ with
      | none => k ((t, v) :: e) h'
      | some a => guardS (sameCell h (evE e a) (evE e (.tmp t))) (bnd (gStore h' 1 (evE e a) v) fun h'' => k ((t, v) :: e) h'')
  else none

def sIf (v : GVal) (A B : SRes) : SRes := onBool v none fun c => onIf c A B
def vals (e : Env) : List Pth → Option (List GVal)
  | [] => some []
  | p :: r => match lk p e, vals e r with | some v, some l => some (v :: l) | _, _ => none
def outV (L : List Pth) : SK := fun e h => match vals e L with | some vs => some (.normal vs h) | none => none
def uncons {β : Type} (vs : List GVal) (k : GVal → List GVal → Option β) : Option β := @List.rec GVal (fun _ => Option β) none (fun v vs _ => k v vs) vs
def unnil {β : Type} (vs : List GVal) (r : Option β) : Option β := @List.rec GVal (fun _ => Option β) r (fun _ _ _ => none) vs
def withVals : List Pth → List GVal → Env → (Env → SRes) → SRes
  | [], vs, e, k => unnil vs (k e)
  | p :: L, vs, e, k => uncons vs fun v vs => withVals L vs ((p, v) :: e) k
def keep (w : List Pth) : Env → Env
  | [] => []
  | q :: r => bif hasP q.1 w then keep w r else q :: keep w r

def onOut (o : SOut) (k : List GVal → GHeap → SRes) (x : Nat → List GVal → GHeap → SRes) (g : Nat → List GVal → GHeap → SRes) : SRes :=
  @SOut.rec (fun _ => SRes) k x g (fun v h => some (.ret v h)) o
def sJoin (r : SRes) (k : List GVal → GHeap → SRes) : SRes := onSome r none fun o => onOut o k (fun i vs h => some (.exit i vs h)) (fun l vs h => some (.goto l vs h))
def sBlk (id : Nat) (r : SRes) (k : List GVal → GHeap → SRes) : SRes :=
  onSome r none fun o => onOut o k (fun i vs h => onIf (Nat.beq i id) (k vs h) (some (.exit i vs h))) (fun l vs h => some (.goto l vs h))
def sLoop (f : List GVal → GHeap → SRes) (n : Nat) : List GVal → GHeap → SRes :=
  @Nat.rec (fun _ => List GVal → GHeap → SRes) (fun _ _ => none) (fun _ ih vs h => sJoin (f vs h) ih) n
def sJumpC (l : Nat) (r : SRes) (k : List GVal → GHeap → SRes) : SRes :=
  onSome r none fun o => onOut o (fun vs h => some (.normal vs h)) (fun i vs h => some (.exit i vs h)) (fun m vs h => onIf (Nat.beq m l) (k vs h) (some (.goto m vs h)))
def sJumps (l : Nat) (f : List GVal → GHeap → SRes) (n : Nat) : SRes → SRes :=
  @Nat.rec (fun _ => SRes → SRes) (fun _ => none) (fun _ ih r => sJumpC l r fun vs h => ih (f vs h)) n
def sGrp (g : Pth) (b : Bool) (L : List Pth) (l : List GOper) (e : Env) (h : GHeap) (k : SK) : SRes :=
  bif hasE e g && (allG g b l && subL L (dstsL l)) then
    sJoin (gIf (evE e (.tmp g)) b (sOpsU E call l e h (outV L)) (some (.normal (undefs L) h))) fun vs h => withVals L vs (keep (dstsL l) e) fun e => k e h
  else none
def sItems : List SItem → Env → GHeap → SK → SRes
  | [], e, h, k => k e h
  | .one o :: r, e, h, k => sStep E call o e h fun e h => sItems r e h k
  | .grp g b L l :: r, e, h, k => sGrp E call g b L l e h fun e h => sItems r e h k
def lkX (i : Nat) : List (Nat × List Pth) → Option (List Pth)
  | [] => none
  | q :: r => bif Nat.beq i q.1 then some q.2 else lkX i r
def resSlots : List GRes → List Pth
  | [] => []
  | .tmp p :: r => p :: resSlots r
  | .cell p _ _ :: r => p :: resSlots r
def sRet (e : Env) (h : GHeap) : List GRes → (List GVal → SRes) → SRes
  | [], k => k []
  | .tmp p :: r, k => sRet e h r fun l => k (evE e (.tmp p) :: l)
  | .cell p n g :: r, k => bnd (loadF h n g (evE e (.tmp p))) fun v => sRet e h r fun l => k (v :: l)
def sDone (R : List GRes) : SK := fun e h => bif okL e (resSlots R) then sRet e h R fun l => some (.ret (gRet l) h) else none

def sCode (n : Nat) (R : List GRes) : SCode → List (Nat × List Pth) → List (Nat × List Pth) → Env → GHeap → SK → SRes
  | .skip, _, _, e, h, k => k e h
  | .ops l, _, _, e, h, k => sOps E call l e h k
  | .items l, _, _, e, h, k => sItems E call l e h k
  | .drawI l, _, _, e, h, k => sItems E call l e h k
  | .draw c s l, _, _, e, h, k => sDraw E call c s l e h k
  | .fz t z g a, _, _, e, h, k => sFz t z g a e h k
  | .seq a b, X, G, e, h, k => sCode n R a X G e h fun e h => sCode n R b X G e h k
  | .cond c a b, X, G, e, h, k => bif okL e (slA c) then sIf (evE e c) (sCode n R a X G e h k) (sCode n R b X G e h k) else none
  | .join L c, X, G, e, h, k => sJoin (sCode n R c X G e h (outV L)) fun vs h => withVals L vs (keep (writes c) e) fun e => k e h
  | .block id L c, X, G, e, h, k => sBlk id (sCode n R c ((id, L) :: X) G e h (outV L)) fun vs h => withVals L vs (keep (writes c) e) fun e => k e h
  | .loop L c, X, G, e, h, _ => bnd (vals e L) fun vs => sLoop (fun vs h => withVals L vs (keep (writes c) e) fun e => sCode n R c X G e h (outV L)) n vs h
  | .exit id, X, _, e, h, _ => bnd (lkX id X) fun L => bnd (vals e L) fun vs => some (.exit id vs h)
  | .scope c l Lg rest La, X, G, e, h, k =>
    sJoin (sJumps l (fun vs h => withVals Lg vs (keep (writes c ++ writes rest) e) fun e => sCode n R rest X ((l, Lg) :: G) e h (outV La)) n (sCode n R c X ((l, Lg) :: G) e h (outV La))) fun vs h => withVals La vs (keep (writes c ++ writes rest) e) fun e => k e h
  | .label _, _, _, e, h, k => k e h
  | .goto l, _, G, e, h, _ => bnd (lkX l G) fun L => bnd (vals e L) fun vs => some (.goto l vs h)
  | .ret, _, _, e, h, _ => sDone R e h
  | .refuse, _, _, _, _, _ => none
end

structure SFunc where
  nargs : Nat
  results : List GRes
  body : SCode
def SFunc.erase (s : SFunc) : GFunc := { nargs := s.nargs, results := s.results, body := s.body.erase }
def argPs : Nat → Nat → List Pth
  | 0, _ => []
  | n + 1, i => pth i :: argPs n (i + 1)
def sEnd (r : SRes) : Option (GVal × GHeap) := onSome r none fun o => @SOut.rec (fun _ => Option (GVal × GHeap)) (fun _ _ => none) (fun _ _ _ => none) (fun _ _ _ => none) (fun v h => some (v, h)) o
/-- What a function is as one Lean term. -/
abbrev TFun := GEnv → CallF → Nat → List GVal → GHeap → Option (GVal × GHeap)
def sRun (s : SFunc) : TFun := fun E call n args h =>
  sEnd (withVals (argPs s.nargs 0) args [] fun e => sCode E call n s.results s.body [] [] e h (sDone s.results))

/-! ### The operations at values -/
def eqV (neg : Bool) (k : GEq) (x y : GVal) : Option GVal := match gEq k x y with | some b => some (.bool (bif neg then !b else b)) | none => none
def sliceSlV (esz : Nat) (x : GVal) (lo hi mx : Option GVal) : Option GVal := bif isStr x then none else gSlice esz x lo hi mx
def allocV (zero : List GVal) (h : GHeap) : Option (GVal × GHeap) := some (.ptr h.n 0, h.push (.cells zero 0 false))
def mkMapV (h : GHeap) : Option (GVal × GHeap) := some (.map h.n, h.push (.map []))
def pv (x : Option GVal) (h : GHeap) : Option (GVal × GHeap) := bnd x fun v => some (v, h)
end
end Go.Gh

/-
  THE GHOST MACHINE, THE SWIFT FORM: what it finds, the ghost finds.
  No claim is proved here.
-/
namespace Go.Gh

/-- The environment says of the frame nothing that is not so. -/
def Sub (e : Env) (ts : GFr) : Prop := ∀ p v, lk p e = some v → getS ts p = v


theorem lk_cons (p : Pth) (q : Pth × GVal) (e : Env) : lk p (q :: e) = if p = q.1 then some q.2 else lk p e := by
  by_cases h : p = q.1
  · rw [if_pos h, lk, pth_same.2 h]; rfl
  · have : Pth.same p q.1 = false := Bool.eq_false_iff.mpr fun e => h (pth_same.1 e)
    rw [if_neg h, lk, this]; rfl

theorem Sub.nil (ts : GFr) : Sub [] ts := fun p v h => by simp [lk] at h
theorem Sub.cons {e : Env} {ts : GFr} (h : Sub e ts) (p : Pth) (v : GVal) : Sub ((p, v) :: e) (Tr.set v p ts) := by
  intro q u hq
  rw [lk_cons] at hq
  split at hq
  · rename_i e1; cases hq; simp only at e1; subst e1; exact getS_set_same _ _ _
  · rename_i e1; rw [getS_set_ne _ _ _ _ e1]; exact h q u hq
theorem Sub.cons' {e : Env} {ts : GFr} (h : Sub e ts) {p : Pth} {v : GVal} (hv : getS ts p = v) : Sub ((p, v) :: e) ts := by
  intro q u hq
  rw [lk_cons] at hq
  split at hq
  · rename_i e1; cases hq; simp only at e1; subst e1; exact hv
  · exact h q u hq
theorem Sub.bindD {e : Env} {ts : GFr} (h : Sub e ts) (d : Option Pth) (v : GVal) : Sub (bindD d v e) (put ts d v) := by
  cases d with
  | none => exact h
  | some p => exact h.cons p v

theorem getS_toTr (e : Env) (p : Pth) : getS (toTr e) p = match lk p e with | some v => v | none => gundef := by
  induction e with
  | nil =>
    have hn : ∀ p, Tr.get p (Tr.nil : GFr) = none := fun p => by
      induction p with
      | e => rfl
      | l p ih => exact ih
      | r p ih => exact ih
    simp [toTr, getS, lk, hn]
  | cons q e ih =>
    rw [lk_cons]
    by_cases h : p = q.1
    · rw [if_pos h]; subst h; rw [toTr, getS_set_same]
    · rw [if_neg h, toTr, getS_set_ne _ _ _ _ h, ih]

theorem evE_eq (e : Env) : evE e = GArg.get (toTr e) := by
  funext a
  cases a with
  | const v => rfl
  | tmp p => (simp only [evE, GArg.get, getS_toTr]) <;> (cases lk p e <;> rfl)

theorem okL_has {e : Env} : ∀ {l : List Pth}, okL e l = true → ∀ p ∈ l, ∃ v, lk p e = some v := by
  intro l
  induction l with
  | nil => intro _ p hp; cases hp
  | cons q l ih =>
    intro h p hp
    simp only [okL, Bool.and_eq_true, hasE] at h
    rcases List.mem_cons.mp hp with rfl | hp
    · cases hq : lk p e with
      | none => rw [hq] at h; exact absurd h.1 (by simp)
      | some v => exact ⟨v, rfl⟩
    · exact ih h.2 p hp

theorem Sub.agree {e : Env} {ts : GFr} (h : Sub e ts) {l : List Pth} (hl : okL e l = true) : Agree (toTr e) ts l := by
  intro p hp
  obtain ⟨v, hv⟩ := okL_has hl p hp
  rw [getS_toTr, hv, h p v hv]

theorem okL_append {e : Env} : ∀ {a b : List Pth}, okL e (a ++ b) = true → okL e a = true ∧ okL e b = true := by
  intro a
  induction a with
  | nil => intro b h; exact ⟨rfl, h⟩
  | cons p a ih =>
    intro b h
    simp only [List.cons_append, okL, Bool.and_eq_true] at h
    have := ih h.2
    exact ⟨by simp only [okL, Bool.and_eq_true]; exact ⟨h.1, this.1⟩, this.2⟩

theorem cond_some {α : Type} {b : Bool} {x : Option α} {o : α} (h : (bif b then x else none) = some o) : b = true ∧ x = some o := by
  cases b with
  | true => exact ⟨rfl, h⟩
  | false => cases h

theorem guardF_eq (v : GVal) (w : Bool) : guardF v w = guardIs v w := by
  cases v <;> try rfl
  case bool b => cases b <;> cases w <;> rfl
theorem guardS_some {b : Bool} {r : SRes} {o : SOut} (h : guardS b r = some o) : b = true ∧ r = some o := by
  cases b with
  | true => exact ⟨rfl, h⟩
  | false => cases h
theorem bnd_some {α β : Type} {x : Option α} {k : α → Option β} {o : β} (h : bnd x k = some o) : ∃ v, x = some v ∧ k v = some o := by
  cases x with
  | none => cases h
  | some v => exact ⟨v, rfl, h⟩
theorem bnd2_some {β : Type} {x : Option (GVal × GHeap)} {k : GVal → GHeap → Option β} {o : β} (h : bnd2 x k = some o) : ∃ v g, x = some (v, g) ∧ k v g = some o := by
  cases x with
  | none => cases h
  | some p => exact ⟨p.1, p.2, rfl, h⟩

section
variable {E : GEnv} {call : CallF}

theorem sOpv_eq (o : GOp) (e : Env) (h : GHeap) : sOpv E call o e h = gOp E call h (evE e) o := by
  cases o with
  | p o => simp only [sOpv, gOp, withH, gPureF_eq]; cases gPure o (evE e) <;> rfl
  | r o => simp only [sOpv, gOp, withH, gReadF_eq]; cases gRead o h (evE e) <;> rfl
  | e o => simp only [sOpv, gOp, gEffF_eq]

theorem sDo_eq (o : GOp) (e : Env) (h : GHeap) (k : GVal → GHeap → SRes) : sDo E call o e h k = bnd2 (gOp E call h (evE e) o) k := by
  cases o with
  | p o => simp only [sDo, gOp, withH, gPureF_eq]; cases gPure o (evE e) <;> rfl
  | r o => simp only [sDo, gOp, withH, gReadF_eq]; cases gRead o h (evE e) <;> rfl
  | e o => simp only [sDo, gOp, gEffF_eq]

theorem gOps_cons (o : GOper) (l : List GOper) (ts : GFr) (h : GHeap) : gOps E call (o :: l) ts h = stepO E call o (gOps E call l) ts h := rfl

/-- One operation. -/
theorem sStep_ok {o : GOper} {e : Env} {h : GHeap} {k : Env → GHeap → SRes} {r : SOut} {ts : GFr} (hs : sStep E call o e h k = some r) (hsub : Sub e ts) :
    ∃ v h', Sub (bindD o.dst v e) (put ts o.dst v) ∧ k (bindD o.dst v e) h' = some r ∧ okL e o.looks = true ∧
      ((wanted ts o.guard = true ∧ gOp E call h (GArg.get ts) o.op = some (v, h')) ∨ (wanted ts o.guard = false ∧ v = gundef ∧ h' = h)) := by
  unfold sStep at hs
  obtain ⟨hl, hs⟩ := cond_some hs
  have hag := hsub.agree hl
  have hop : gOp E call h (evE e) o.op = gOp E call h (GArg.get ts) o.op := by rw [evE_eq]; exact op_agree E call h (Agree.left (by unfold GOper.looks at hag; exact hag))
  have hgd := guard_agree hag
  cases hg : o.guard with
  | none =>
    rw [hg] at hs
    simp only [sDo_eq, hop] at hs
    obtain ⟨v, h', e1, e2⟩ := bnd2_some hs
    exact ⟨v, h', hsub.bindD _ _, e2, hl, .inl ⟨rfl, e1⟩⟩
  | some g =>
    rw [hg] at hs hgd
    simp only [sOpv_eq, hop] at hs
    have hw : guardIs (evE e (.tmp g.1)) g.2 = wanted ts (some g) := by
      rw [← hgd, evE_eq]; rfl
    simp only [gdo, guardF_eq, hw] at hs
    cases hb : wanted ts (some g) with
    | true =>
      rw [hb] at hs
      obtain ⟨v, h', e1, e2⟩ := bnd2_some hs
      exact ⟨v, h', hsub.bindD _ _, e2, hl, .inl ⟨rfl, e1⟩⟩
    | false =>
      rw [hb] at hs
      exact ⟨gundef, h, hsub.bindD _ _, hs, hl, .inr ⟨rfl, rfl, rfl⟩⟩

theorem sOps_ok : ∀ (l : List GOper) {e : Env} {h : GHeap} {k : SK} {r : SOut} {ts : GFr}, sOps E call l e h k = some r → Sub e ts →
    ∃ ts' h' e', gOps E call l ts h = some (ts', h') ∧ Sub e' ts' ∧ k e' h' = some r := by
  intro l
  induction l with
  | nil => intro e h k r ts hs hsub; exact ⟨ts, h, e, rfl, hsub, hs⟩
  | cons o l ih =>
    intro e h k r ts hs hsub
    obtain ⟨v, h', h1, h2, _, h3⟩ := sStep_ok hs hsub
    obtain ⟨ts', h'', e', h4, h5, h6⟩ := ih h2 h1
    refine ⟨ts', h'', e', ?_, h5, h6⟩
    rw [gOps_cons, stepO]
    rcases h3 with ⟨hw, ho⟩ | ⟨hw, rfl, rfl⟩
    · rw [hw, ho]; exact h4
    · rw [hw]; exact h4

theorem sOpsT_ok : ∀ (l : List GOper) {e : Env} {h : GHeap} {hs0 : List GHeap} {k : Env → GHeap → List GHeap → SRes} {r : SOut} {ts : GFr}, sOpsT E call l e h hs0 k = some r → Sub e ts →
    ∃ ts' h' e' hs, gOpsT E call l ts h = some (ts', h', hs) ∧ Sub e' ts' ∧ k e' h' (hs0 ++ hs) = some r := by
  intro l
  induction l with
  | nil => intro e h hs0 k r ts hs hsub; exact ⟨ts, h, e, [h], rfl, hsub, hs⟩
  | cons o l ih =>
    intro e h hs0 k r ts hs hsub
    obtain ⟨v, h', h1, h2, _, h3⟩ := sStep_ok hs hsub
    obtain ⟨ts', h'', e', hs', h4, h5, h6⟩ := ih h2 h1
    refine ⟨ts', h'', e', h :: hs', ?_, h5, by simpa using h6⟩
    rw [gOpsT]
    rcases h3 with ⟨hw, ho⟩ | ⟨hw, rfl, rfl⟩
    · rw [hw, ho]; simp only [cond_true, h4, consH]
    · rw [hw]; simp only [cond_false, h4, consH]

theorem nth_looks {l : List GOper} {i : Nat} {o : GOper} {e : Env} (hl : okL e (looksL l) = true) (h : nth l i = some o) : okL e o.looks = true ∧ okL e (dstL o.dst) = true := by
  induction l generalizing i with
  | nil => cases h
  | cons q l ih =>
    simp only [looksL] at hl
    obtain ⟨h1, h2⟩ := okL_append hl
    obtain ⟨h3, h4⟩ := okL_append h2
    cases i with
    | zero => cases h; exact ⟨h1, h3⟩
    | succ i => exact ih h4 h

theorem readAgain_agree {o : GOp} {h : GHeap} {t u : GFr} (hag : Agree t u o.slots) : readAgain o h (GArg.get t) = readAgain o h (GArg.get u) := by
  cases o with
  | p o => rfl
  | r o => simp only [readAgain, read_agree h hag]
  | e o => rfl

theorem sChkOne_ok {l : List GOper} {e : Env} {ts : GFr} {hs : List GHeap} {r c : Nat} (hsub : Sub e ts) (hl : okL e (looksL l) = true) (h : sChkOne l e hs r c = true) : chkOne l ts hs r c = true := by
  unfold sChkOne at h
  unfold chkOne
  cases hn : nth l r with
  | none => simp [hn] at h
  | some ro =>
    simp only [hn] at h ⊢
    obtain ⟨h1, h2⟩ := nth_looks hl hn
    have hag := hsub.agree h1
    have hgd := guard_agree hag
    have hr : ∀ g, readAgain ro.op g (evE e) = readAgain ro.op g (GArg.get ts) := fun g => by
      rw [evE_eq]; exact readAgain_agree (Agree.left (by unfold GOper.looks at hag; exact hag))
    have hd : ∀ d, ro.dst = some d → evE e (.tmp d) = getS ts d := fun d e1 => by
      rw [evE_eq]
      rw [e1] at h2
      exact hsub.agree h2 d (List.mem_singleton.mpr rfl)
    cases hg : ro.guard with
    | none =>
      rw [hg] at hgd
      have hw : wanted ts none = true := rfl
      simp only [hg, hw, cond_true] at h ⊢
      cases hdd : ro.dst with
      | none => simp [hdd] at h
      | some d =>
        simp only [hdd] at h ⊢
        cases hh : nth hs (bif Nat.blt c r then c else Nat.succ c) with
        | none => simp [hh] at h
        | some g =>
          simp only [hh] at h ⊢
          rw [hr, hd d hdd] at h
          unfold chkV at h
          cases hx : readAgain ro.op g (GArg.get ts) with
          | none => rw [hx] at h; simp at h
          | some v => rw [hx] at h; exact h
    | some g =>
      rw [hg] at hgd
      have hw : guardIs (evE e (.tmp g.1)) g.2 = wanted ts (some g) := by rw [← hgd, evE_eq]; rfl
      simp only [hg, hw] at h ⊢
      cases hb : wanted ts (some g) with
      | false => rfl
      | true =>
        simp only [hb, cond_true] at h ⊢
        cases hdd : ro.dst with
        | none => simp [hdd] at h
        | some d =>
          simp only [hdd] at h ⊢
          cases hh : nth hs (bif Nat.blt c r then c else Nat.succ c) with
          | none => simp [hh] at h
          | some g' =>
            simp only [hh] at h ⊢
            rw [hr, hd d hdd] at h
            unfold chkV at h
            cases hx : readAgain ro.op g' (GArg.get ts) with
            | none => rw [hx] at h; simp at h
            | some v => rw [hx] at h; exact h

theorem sChkAll_ok {l : List GOper} {e : Env} {ts : GFr} {hs : List GHeap} (hsub : Sub e ts) (hl : okL e (looksL l) = true) : ∀ {chk : List (Nat × Nat)}, sChkAll l e hs chk = true → chkAll l ts hs chk = true := by
  intro chk
  induction chk with
  | nil => intro _; rfl
  | cons p chk ih =>
    intro h
    simp only [sChkAll, Bool.and_eq_true] at h
    simp only [chkAll, Bool.and_eq_true]
    exact ⟨sChkOne_ok hsub hl h.1, ih h.2⟩

theorem storeV_ok {l : List GOper} {i : Nat} {o : GOper} {e : Env} {ts : GFr} (hsub : Sub e ts) (hl : okL e (looksL l) = true) (hn : nth l i = some o) : storeV o e = storeAt? o ts := by
  have hag := hsub.agree (nth_looks hl hn).1
  obtain ⟨dst, op, guard⟩ := o
  cases guard with
  | some g => rfl
  | none =>
    unfold storeV storeAt?
    simp only
    cases op with
    | p o => rfl
    | r o => rfl
    | e o =>
      cases o with
      | store n a x =>
        simp only
        have : evE e a = a.get ts := by
          rw [evE_eq]
          refine arg_agree ?_
          intro p hp
          exact hag p (List.mem_append_left _ (List.mem_append_left _ hp))
        rw [this]
        cases a.get ts <;> rfl
      | _ => rfl

theorem sChkSw_ok {l : List GOper} {e : Env} {ts : GFr} {sw : Option (Nat × Nat)} (hsub : Sub e ts) (hl : okL e (looksL l) = true) (h : sChkSw l e sw = true) : chkSw l ts sw = true := by
  unfold sChkSw at h
  unfold chkSw
  cases sw with
  | none => rfl
  | some p =>
    simp only at h ⊢
    cases h1 : nth l p.1 with
    | none => simp [h1] at h
    | some a =>
      cases h2 : nth l p.2 with
      | none => simp [h1, h2] at h
      | some b =>
        simp only [h1, h2, storeV_ok hsub hl h1, storeV_ok hsub hl h2] at h ⊢
        unfold swV at h
        cases hx : storeAt? a ts with
        | none => rw [hx] at h; simp at h
        | some k =>
          cases hy : storeAt? b ts with
          | none => rw [hx, hy] at h; simp at h
          | some m => rw [hx, hy] at h; exact h

theorem sDraw_ok {chk : List (Nat × Nat)} {sw : Option (Nat × Nat)} {l : List GOper} {e : Env} {h : GHeap} {k : SK} {r : SOut} {ts : GFr} (hs : sDraw E call chk sw l e h k = some r) (hsub : Sub e ts) :
    ∃ ts' h' e', gDrawC E call chk sw l (ts, h) = some (.normal, (ts', h')) ∧ Sub e' ts' ∧ k e' h' = some r := by
  obtain ⟨ts', h', e', hs', h1, h2, h3⟩ := sOpsT_ok l hs hsub
  obtain ⟨hl, h3⟩ := cond_some h3
  obtain ⟨hc, h3⟩ := guardS_some h3
  simp only [List.nil_append, Bool.and_eq_true] at hc
  refine ⟨ts', h', e', ?_, h2, h3⟩
  simp only [gDrawC, h1, chkC]
  rw [sChkAll_ok h2 hl hc.1, sChkSw_ok h2 hl hc.2]
  rfl

theorem sFz_ok {t : Pth} {esz : Nat} {agg : Bool} {at_ : Option GArg} {e : Env} {h : GHeap} {k : SK} {r : SOut} {ts : GFr} (hs : sFz t esz agg at_ e h k = some r) (hsub : Sub e ts) :
    ∃ ts' h' e', gFz esz agg at_ t ts h = some (ts', h') ∧ Sub e' ts' ∧ k e' h' = some r := by
  unfold sFz at hs
  obtain ⟨hl, hs⟩ := cond_some hs
  have hag := hsub.agree hl
  have ht : evE e (.tmp t) = getS ts t := by rw [evE_eq]; exact hag t (List.mem_cons_self ..)
  rw [ht] at hs
  obtain ⟨v, h', h1, h2⟩ := bnd2_some hs
  cases at_ with
  | none =>
    refine ⟨_, _, _, ?_, hsub.cons t v, h2⟩
    simp only [gFz, h1]
  | some a =>
    have ha : evE e a = a.get ts := by
      rw [evE_eq]
      exact arg_agree fun p hp => hag p (List.mem_cons_of_mem _ hp)
    simp only [ha] at h2
    obtain ⟨hc, h2⟩ := guardS_some h2
    obtain ⟨h'', h3, h4⟩ := bnd_some h2
    refine ⟨_, _, _, ?_, hsub.cons t v, h4⟩
    simp only [gFz, h1, hc, cond_true, h3, fzPut]
end
end Go.Gh

/-
  THE GHOST MACHINE, THE SWIFT FORM: code and functions.
  No claim is proved here.
-/
namespace Go.Gh

section
variable {E : GEnv} {call : CallF}

theorem put_other {ts : GFr} {d : Option Pth} {v : GVal} {p : Pth} (h : p ∉ dstL d) : getS (put ts d v) p = getS ts p := by
  cases d with
  | none => rfl
  | some q => exact getS_set_ne _ _ _ _ fun e => h (by rw [e]; exact List.mem_singleton.mpr rfl)

theorem gOps_off : ∀ (l : List GOper) {ts ts' : GFr} {h h' : GHeap} {p : Pth}, p ∉ dstsL l → gOps E call l ts h = some (ts', h') → getS ts' p = getS ts p := by
  intro l
  induction l with
  | nil => intro ts ts' h h' p _ e; cases e; rfl
  | cons o l ih =>
    intro ts ts' h h' p hp e
    simp only [dstsL, List.mem_append, not_or] at hp
    rw [gOps_cons, stepO] at e
    cases hw : wanted ts o.guard with
    | true =>
      rw [hw] at e
      simp only [cond_true] at e
      cases ho : gOp E call h (GArg.get ts) o.op with
      | none => rw [ho] at e; cases e
      | some q => rw [ho] at e; rw [ih hp.2 e, put_other hp.1]
    | false => rw [hw] at e; rw [ih hp.2 e, put_other hp.1]

theorem consH_some {h : GHeap} {r : Option (GFr × GHeap × List GHeap)} {x : GFr × GHeap × List GHeap} (e : consH h r = some x) : ∃ hs, r = some (x.1, x.2.1, hs) := by
  cases r with
  | none => cases e
  | some p => cases e; exact ⟨p.2.2, rfl⟩

theorem gOpsT_off : ∀ (l : List GOper) {ts ts' : GFr} {h h' : GHeap} {hs : List GHeap} {p : Pth}, p ∉ dstsL l → gOpsT E call l ts h = some (ts', h', hs) → getS ts' p = getS ts p := by
  intro l
  induction l with
  | nil => intro ts ts' h h' hs p _ e; cases e; rfl
  | cons o l ih =>
    intro ts ts' h h' hs p hp e
    simp only [dstsL, List.mem_append, not_or] at hp
    rw [gOpsT] at e
    cases hw : wanted ts o.guard with
    | true =>
      rw [hw] at e
      simp only [cond_true] at e
      cases ho : gOp E call h (GArg.get ts) o.op with
      | none => rw [ho] at e; cases e
      | some q =>
        rw [ho] at e
        obtain ⟨hs', e'⟩ := consH_some e
        rw [ih hp.2 e', put_other hp.1]
    | false =>
      rw [hw] at e
      obtain ⟨hs', e'⟩ := consH_some e
      rw [ih hp.2 e', put_other hp.1]

theorem gFz_off {esz : Nat} {agg : Bool} {a : Option GArg} {t : Pth} {ts ts' : GFr} {h h' : GHeap} {p : Pth} (hp : p ≠ t) (e : gFz esz agg a t ts h = some (ts', h')) : getS ts' p = getS ts p := by
  unfold gFz at e
  split at e
  · cases e
  · split at e
    · cases e; exact getS_set_ne _ _ _ _ hp
    · obtain ⟨_, e⟩ := cond_some e
      unfold fzPut at e
      split at e
      · cases e; exact getS_set_ne _ _ _ _ hp
      · cases e

theorem gLoop_off {f : St → Res} {p : Pth} (hf : ∀ s x s', f s = some (x, s') → getS s'.1 p = getS s.1 p) : ∀ n s x s', gLoop f n s = some (x, s') → getS s'.1 p = getS s.1 p := by
  intro n
  induction n with
  | zero => intro s x s' e; cases e
  | succ n ih =>
    intro s x s' e
    rw [gLoop] at e
    unfold thenC at e
    split at e
    · cases e
    · rename_i q hq
      have h1 := hf s q.1 q.2 (by rw [hq])
      split at e
      · rw [ih _ _ _ e, h1]
      · cases e; exact h1

theorem gJumps_off {l : Nat} {f : St → Res} {p : Pth} {t0 : GVal} (hf : ∀ s x s', f s = some (x, s') → getS s'.1 p = getS s.1 p) : ∀ n r x s', (∀ y s, r = some (y, s) → getS s.1 p = t0) → gJumps l f n r = some (x, s') → getS s'.1 p = t0 := by
  intro n
  induction n with
  | zero => intro r x s' _ e; cases e
  | succ n ih =>
    intro r x s' hr e
    cases r with
    | none => cases e
    | some q =>
      have h1 := hr q.1 q.2 rfl
      obtain ⟨y, s⟩ := q
      cases y with
      | goto m =>
        have e' : (bif Nat.beq m l then gJumps l f n (f s) else some (.goto m, s)) = some (x, s') := e
        cases hb : Nat.beq m l with
        | true => rw [hb] at e'; exact ih _ _ _ (fun y s2 hy => by rw [hf _ _ _ hy, h1]) e'
        | false => rw [hb] at e'; cases e'; exact h1
      | _ => cases e; exact h1

theorem gOps_append : ∀ (l1 l2 : List GOper) {ts ts' : GFr} {h h' : GHeap}, gOps E call l1 ts h = some (ts', h') → gOps E call (l1 ++ l2) ts h = gOps E call l2 ts' h' := by
  intro l1
  induction l1 with
  | nil => intro l2 ts ts' h h' e; cases e; rfl
  | cons o l1 ih =>
    intro l2 ts ts' h h' e
    rw [gOps_cons, stepO] at e
    rw [List.cons_append, gOps_cons, stepO]
    cases hw : wanted ts o.guard with
    | true =>
      rw [hw] at e
      simp only [cond_true] at e ⊢
      cases ho : gOp E call h (GArg.get ts) o.op with
      | none => rw [ho] at e; cases e
      | some q => rw [ho] at e; exact ih l2 e
    | false =>
      rw [hw] at e
      exact ih l2 e

theorem gOpsT_of : ∀ (l : List GOper) {ts ts' : GFr} {h h' : GHeap}, gOps E call l ts h = some (ts', h') → ∃ hs, gOpsT E call l ts h = some (ts', h', hs) := by
  intro l
  induction l with
  | nil => intro ts ts' h h' e; cases e; exact ⟨_, rfl⟩
  | cons o l ih =>
    intro ts ts' h h' e
    rw [gOps_cons, stepO] at e
    rw [gOpsT]
    cases hw : wanted ts o.guard with
    | true =>
      rw [hw] at e
      simp only [cond_true] at e ⊢
      cases ho : gOp E call h (GArg.get ts) o.op with
      | none => rw [ho] at e; cases e
      | some q =>
        rw [ho] at e
        obtain ⟨hs, h1⟩ := ih e
        exact ⟨h :: hs, by simp only [h1, consH]⟩
    | false =>
      rw [hw] at e
      obtain ⟨hs, h1⟩ := ih e
      exact ⟨h :: hs, by simp only [cond_false, h1, consH]⟩

theorem gDrawC_of {l : List GOper} {ts ts' : GFr} {h h' : GHeap} (e : gOps E call l ts h = some (ts', h')) : gDrawC E call [] none l (ts, h) = some (.normal, (ts', h')) := by
  obtain ⟨hs, h1⟩ := gOpsT_of l e
  simp only [gDrawC, h1, chkC, chkAll, chkSw, Bool.and_self, cond_true]

/-- What a piece of code does not write stays. -/
theorem gCode_off {n : Nat} : ∀ (c : SCode) (s s' : St) (x : GExit) (p : Pth), p ∉ writes c → gCode E call n c.erase s = some (x, s') → getS s'.1 p = getS s.1 p := by
  intro c
  induction c with
  | skip => intro s s' x p _ e; cases e; rfl
  | ops l =>
    intro s s' x p hp e
    have e' : gOpsC E call l s = some (x, s') := e
    unfold gOpsC normalC at e'
    split at e'
    · rename_i t ht; cases e'; exact gOps_off l hp ht
    · cases e'
  | items l =>
    intro s s' x p hp e
    have e' : gOpsC E call (flatI l) s = some (x, s') := e
    unfold gOpsC normalC at e'
    split at e'
    · rename_i t ht; cases e'; exact gOps_off (flatI l) hp ht
    · cases e'
  | drawI l =>
    intro s s' x p hp e
    have e' : gDrawC E call [] none (flatI l) s = some (x, s') := e
    unfold gDrawC chkC at e'
    split at e'
    · rename_i t ht
      obtain ⟨_, e'⟩ := cond_some e'
      cases e'; exact gOpsT_off (flatI l) hp ht
    · cases e'
  | draw chk sw l =>
    intro s s' x p hp e
    have e' : gDrawC E call chk sw l s = some (x, s') := e
    unfold gDrawC chkC at e'
    split at e'
    · rename_i t ht
      obtain ⟨_, e'⟩ := cond_some e'
      cases e'; exact gOpsT_off l hp ht
    · cases e'
  | fz t esz agg a =>
    intro s s' x p hp e
    have e' : normalC (gFz esz agg a t s.1 s.2) = some (x, s') := e
    unfold normalC at e'
    split at e'
    · rename_i t ht; cases e'; exact gFz_off (fun e => hp (by rw [e]; exact List.mem_singleton.mpr rfl)) ht
    · cases e'
  | seq a b iha ihb =>
    intro s s' x p hp e
    simp only [writes, List.mem_append, not_or] at hp
    have e' : thenC (gCode E call n a.erase s) (gCode E call n b.erase) = some (x, s') := e
    unfold thenC at e'
    split at e'
    · cases e'
    · rename_i q hq
      have h1 := iha s q.2 q.1 p hp.1 (by rw [hq])
      split at e'
      · rw [ihb _ _ _ p hp.2 e', h1]
      · cases e'; exact h1
  | cond c a b iha ihb =>
    intro s s' x p hp e
    simp only [writes, List.mem_append, not_or] at hp
    have e' : gCond (c.get s.1) (gCode E call n a.erase) (gCode E call n b.erase) s = some (x, s') := e
    unfold gCond at e'
    split at e'
    · rename_i b' _
      cases b' with
      | true => exact iha _ _ _ p hp.1 e'
      | false => exact ihb _ _ _ p hp.2 e'
    · cases e'
  | join L c ih => intro s s' x p hp e; exact ih s s' x p hp e
  | block id L c ih =>
    intro s s' x p hp e
    have e' : inBlockC id (gCode E call n c.erase s) = some (x, s') := e
    unfold inBlockC at e'
    split at e'
    · cases e'
    · rename_i q hq
      have h1 := ih s q.2 q.1 p hp (by rw [hq])
      split at e'
      · rename_i i _
        cases hb : Nat.beq i id with
        | true => rw [hb] at e'; cases e'; exact h1
        | false => rw [hb] at e'; cases e'; exact h1
      · cases e'; exact h1
  | loop L c ih =>
    intro s s' x p hp e
    exact gLoop_off (fun s x s' e => ih s s' x p hp e) n s x s' e
  | exit id => intro s s' x p _ e; cases e; rfl
  | scope c l Lg r La ihc ihr =>
    intro s s' x p hp e
    simp only [writes, List.mem_append, not_or] at hp
    exact gJumps_off (t0 := getS s.1 p) (fun s x s' e => ihr s s' x p hp.2 e) n _ x s' (fun y s1 h1 => ihc s s1 y p hp.1 h1) e
  | label l => intro s s' x p _ e; cases e; rfl
  | goto l => intro s s' x p _ e; cases e; rfl
  | ret => intro s s' x p _ e; cases e; rfl
  | refuse => intro s s' x p _ e; cases e

theorem vals_ok {e : Env} {ts : GFr} (hsub : Sub e ts) : ∀ {L : List Pth} {vs : List GVal}, vals e L = some vs → vs = L.map (getS ts) := by
  intro L
  induction L with
  | nil => intro vs h; cases h; rfl
  | cons p L ih =>
    intro vs h
    simp only [vals] at h
    split at h
    · rename_i v l h1 h2
      cases h
      simp only [List.map_cons, hsub p v h1, ih h2]
    · cases h

theorem outV_ok {e : Env} {ts : GFr} {L : List Pth} {h : GHeap} {o : SOut} (hsub : Sub e ts) (ho : outV L e h = some o) : o = .normal (L.map (getS ts)) h := by
  unfold outV at ho
  split at ho
  · rename_i vs hv; cases ho; rw [vals_ok hsub hv]
  · cases ho

theorem withVals_ok {ts : GFr} {k : Env → SRes} {o : SOut} : ∀ {L : List Pth} {e : Env}, Sub e ts → withVals L (L.map (getS ts)) e k = some o → ∃ e', Sub e' ts ∧ k e' = some o := by
  intro L
  induction L with
  | nil => intro e hsub h; exact ⟨e, hsub, h⟩
  | cons p L ih =>
    intro e hsub h
    exact ih (hsub.cons' rfl) h

theorem Sub.keep {w : List Pth} {e : Env} {ts ts' : GFr} (hsub : Sub e ts) (hw : ∀ p, p ∉ w → getS ts' p = getS ts p) : Sub (keep w e) ts' := by
  have hk : ∀ {e : Env} {p : Pth} {v : GVal}, lk p (Gh.keep w e) = some v → lk p e = some v ∧ p ∉ w := by
    intro e
    induction e with
    | nil => intro p v h; cases h
    | cons q e ih =>
      intro p v h
      simp only [Gh.keep] at h
      cases hq : hasP q.1 w with
      | true =>
        rw [hq] at h
        obtain ⟨h1, h2⟩ := ih h
        refine ⟨?_, h2⟩
        rw [lk_cons, if_neg (fun e => h2 (by rw [e]; exact hasP_iff.1 hq))]
        exact h1
      | false =>
        rw [hq] at h
        simp only [cond_false] at h
        rw [lk_cons] at h ⊢
        by_cases hpq : p = q.1
        · rw [if_pos hpq] at h ⊢
          refine ⟨h, fun hm => ?_⟩
          rw [← hpq, hasP_iff.2 hm] at hq; cases hq
        · rw [if_neg hpq] at h ⊢
          exact ih h
  intro p v h
  obtain ⟨h1, h2⟩ := hk h
  rw [hw p h2]
  exact hsub p v h1

theorem allG_cons {g : Pth} {b : Bool} {o : GOper} {r : List GOper} (h : allG g b (o :: r) = true) : o.guard = some (g, b) ∧ g ∉ dstL o.dst ∧ allG g b r = true := by
  simp only [allG, Bool.and_eq_true] at h
  obtain ⟨⟨h1, h2⟩, h3⟩ := h
  refine ⟨?_, ?_, h3⟩
  · cases hg : o.guard with
    | none => rw [hg] at h1; simp at h1
    | some p =>
      rw [hg] at h1
      simp only [Bool.and_eq_true, beq_iff_eq] at h1
      obtain ⟨q, c⟩ := p
      simp only at h1
      rw [pth_same.1 h1.1, h1.2]
  · cases hd : o.dst with
    | none => simp [dstL]
    | some d =>
      rw [hd] at h2
      simp only [Bool.not_eq_true'] at h2
      intro hm
      have : g = d := List.mem_singleton.mp hm
      subst this
      rw [pth_same.2 rfl] at h2; cases h2

theorem sOpsU_ok {g : Pth} {b : Bool} : ∀ (l : List GOper) {e : Env} {h : GHeap} {k : SK} {r : SOut} {ts : GFr}, allG g b l = true → guardIs (getS ts g) b = true → sOpsU E call l e h k = some r → Sub e ts →
    ∃ ts' h' e', gOps E call l ts h = some (ts', h') ∧ Sub e' ts' ∧ k e' h' = some r := by
  intro l
  induction l with
  | nil => intro e h k r ts _ _ hs hsub; exact ⟨ts, h, e, rfl, hsub, hs⟩
  | cons o l ih =>
    intro e h k r ts ha hg hs hsub
    obtain ⟨h1, h2, h3⟩ := allG_cons ha
    have hs' : sStepU E call o e h (fun e h => sOpsU E call l e h k) = some r := hs
    unfold sStepU at hs'
    obtain ⟨hl, hs'⟩ := cond_some hs'
    have hop : gOp E call h (evE e) o.op = gOp E call h (GArg.get ts) o.op := by rw [evE_eq]; exact op_agree E call h (hsub.agree hl)
    rw [sDo_eq, hop] at hs'
    obtain ⟨v, h', e1, e2⟩ := bnd2_some hs'
    have hg' : guardIs (getS (put ts o.dst v) g) b = true := by rw [put_other h2]; exact hg
    obtain ⟨ts', h'', e', h4, h5, h6⟩ := ih h3 hg' e2 (hsub.bindD _ _)
    refine ⟨ts', h'', e', ?_, h5, h6⟩
    have hw : wanted ts o.guard = true := by rw [h1]; exact hg
    rw [gOps_cons, stepO, hw, e1]; exact h4

theorem gOps_undef {g : Pth} {b : Bool} : ∀ (l : List GOper) {h : GHeap} {ts : GFr}, allG g b l = true → guardIs (getS ts g) b = false →
    ∃ ts', gOps E call l ts h = some (ts', h) ∧ (∀ p ∈ dstsL l, getS ts' p = gundef) ∧ ∀ p, p ∉ dstsL l → getS ts' p = getS ts p := by
  intro l
  induction l with
  | nil => intro h ts _ _; exact ⟨ts, rfl, (fun p hp => by cases hp), fun _ _ => rfl⟩
  | cons o l ih =>
    intro h ts ha hg
    obtain ⟨h1, h2, h3⟩ := allG_cons ha
    have hg' : guardIs (getS (put ts o.dst gundef) g) b = false := by rw [put_other h2]; exact hg
    obtain ⟨ts', h4, h5, h6⟩ := ih (h := h) h3 hg'
    have hw : wanted ts o.guard = false := by rw [h1]; exact hg
    refine ⟨ts', ?_, ?_, ?_⟩
    · rw [gOps_cons, stepO, hw]; exact h4
    · intro p hp
      by_cases hm : p ∈ dstsL l
      · exact h5 p hm
      · rw [h6 p hm]
        rcases List.mem_append.mp hp with hp | hp
        · cases hd : o.dst with
          | none => rw [hd] at hp; cases hp
          | some d => rw [hd] at hp; rw [List.mem_singleton.mp hp]; exact getS_set_same _ _ _
        · exact absurd hp hm
    · intro p hp
      simp only [dstsL, List.mem_append, not_or] at hp
      rw [h6 p hp.2, put_other hp.1]

theorem undefs_eq {ts : GFr} : ∀ {L : List Pth}, (∀ p ∈ L, getS ts p = gundef) → undefs L = L.map (getS ts) := by
  intro L
  induction L with
  | nil => intro _; rfl
  | cons p L ih => intro h; simp only [undefs, List.map_cons, h p (List.mem_cons_self ..), ih fun q hq => h q (List.mem_cons_of_mem _ hq)]
theorem subL_mem {M : List Pth} : ∀ {L : List Pth}, subL L M = true → ∀ p ∈ L, p ∈ M := by
  intro L
  induction L with
  | nil => intro _ p hp; cases hp
  | cons q L ih =>
    intro h p hp
    simp only [subL, Bool.and_eq_true] at h
    rcases List.mem_cons.mp hp with rfl | hp
    · exact hasP_iff.1 h.1
    · exact ih h.2 p hp

theorem sGrp_ok {g : Pth} {b : Bool} {L : List Pth} {l : List GOper} {e : Env} {h : GHeap} {k : SK} {r : SOut} {ts : GFr} (hs : sGrp E call g b L l e h k = some r) (hsub : Sub e ts) :
    ∃ ts' h' e', gOps E call l ts h = some (ts', h') ∧ Sub e' ts' ∧ k e' h' = some r := by
  unfold sGrp at hs
  obtain ⟨hc, hs⟩ := cond_some hs
  simp only [Bool.and_eq_true] at hc
  obtain ⟨h1, h2, h3⟩ := hc
  have hg : evE e (.tmp g) = getS ts g := by
    rw [evE_eq]
    exact hsub.agree (l := [g]) (by simp only [okL, h1, Bool.and_true]) g (List.mem_singleton.mpr rfl)
  rw [hg] at hs
  have fin : ∀ ts' h', gOps E call l ts h = some (ts', h') → withVals L (L.map (getS ts')) (keep (dstsL l) e) (fun e => k e h') = some r → ∃ ts' h' e', gOps E call l ts h = some (ts', h') ∧ Sub e' ts' ∧ k e' h' = some r := by
    intro ts' h' ho hw
    obtain ⟨e', h4, h5⟩ := withVals_ok (hsub.keep fun p hp => gOps_off l hp ho) hw
    exact ⟨ts', h', e', ho, h4, h5⟩
  cases hgb : guardIs (getS ts g) b with
  | true =>
    rw [gIf, guardF_eq, hgb] at hs
    simp only [onIf] at hs
    cases hu : sOpsU E call l e h (outV L) with
    | none => rw [hu] at hs; cases hs
    | some o =>
      rw [hu] at hs
      obtain ⟨ts', h', e', h4, h5, h6⟩ := sOpsU_ok l h2 hgb hu hsub
      have := outV_ok h5 h6
      subst this
      exact fin ts' h' h4 hs
  | false =>
    rw [gIf, guardF_eq, hgb] at hs
    obtain ⟨ts', h4, h5, _⟩ := gOps_undef (E := E) (call := call) l (h := h) h2 hgb
    have hs' : withVals L (undefs L) (keep (dstsL l) e) (fun e => k e h) = some r := hs
    rw [undefs_eq fun p hp => h5 p (subL_mem h3 p hp)] at hs'
    exact fin ts' h h4 hs'

theorem sItems_ok : ∀ (l : List SItem) {e : Env} {h : GHeap} {k : SK} {r : SOut} {ts : GFr}, sItems E call l e h k = some r → Sub e ts →
    ∃ ts' h' e', gOps E call (flatI l) ts h = some (ts', h') ∧ Sub e' ts' ∧ k e' h' = some r := by
  intro l
  induction l with
  | nil => intro e h k r ts hs hsub; exact ⟨ts, h, e, rfl, hsub, hs⟩
  | cons i l ih =>
    intro e h k r ts hs hsub
    cases i with
    | one o =>
      have hs' : sStep E call o e h (fun e h => sItems E call l e h k) = some r := hs
      have hone : sOps E call [o] e h (fun e h => sItems E call l e h k) = some r := hs'
      obtain ⟨ts', h', e', h1, h2, h3⟩ := sOps_ok [o] hone hsub
      obtain ⟨ts'', h'', e'', h4, h5, h6⟩ := ih h3 h2
      exact ⟨ts'', h'', e'', by show gOps E call ([o] ++ flatI l) ts h = _; rw [gOps_append _ _ h1]; exact h4, h5, h6⟩
    | grp g b L gl =>
      have hs' : sGrp E call g b L gl e h (fun e h => sItems E call l e h k) = some r := hs
      obtain ⟨ts', h', e', h1, h2, h3⟩ := sGrp_ok hs' hsub
      obtain ⟨ts'', h'', e'', h4, h5, h6⟩ := ih h3 h2
      exact ⟨ts'', h'', e'', by show gOps E call (gl ++ flatI l) ts h = _; rw [gOps_append _ _ h1]; exact h4, h5, h6⟩

/-- What the swift form's result says of the ghost's. -/
def Post (R : List GRes) (X G : List (Nat × List Pth)) (k : SK) (o : SOut) (r : Res) : Prop :=
  (∃ ts' h' e', r = some (.normal, (ts', h')) ∧ Sub e' ts' ∧ k e' h' = some o) ∨
  (∃ id L ts' h', o = .exit id (L.map (getS ts')) h' ∧ lkX id X = some L ∧ r = some (.exit id, (ts', h'))) ∨
  (∃ l L ts' h', o = .goto l (L.map (getS ts')) h' ∧ lkX l G = some L ∧ r = some (.goto l, (ts', h'))) ∨
  (∃ v ts' h', o = .ret v h' ∧ r = some (.ret, (ts', h')) ∧ leave R (ts', h') = some (v, h'))

theorem sRet_ok {e : Env} {ts : GFr} {h : GHeap} {o : SOut} (hsub : Sub e ts) : ∀ {R : List GRes} {k : List GVal → SRes}, okL e (resSlots R) = true → sRet e h R k = some o → ∃ l, gRes ts h R = some l ∧ k l = some o := by
  intro R
  induction R with
  | nil => intro k _ hr; exact ⟨[], rfl, hr⟩
  | cons r R ih =>
    intro k hl hr
    cases r with
    | tmp p =>
      have hl' : okL e (p :: resSlots R) = true := hl
      have hp : evE e (.tmp p) = getS ts p := by rw [evE_eq]; exact hsub.agree hl' p (List.mem_cons_self ..)
      have hl2 : okL e (resSlots R) = true := by
        simp only [okL, Bool.and_eq_true] at hl'; exact hl'.2
      obtain ⟨l, h1, h2⟩ := ih hl2 hr
      refine ⟨_, ?_, h2⟩
      simp only [gRes, gRes1, h1, hp]
    | cell p n g =>
      have hl' : okL e (p :: resSlots R) = true := hl
      have hp : evE e (.tmp p) = getS ts p := by rw [evE_eq]; exact hsub.agree hl' p (List.mem_cons_self ..)
      have hl2 : okL e (resSlots R) = true := by
        simp only [okL, Bool.and_eq_true] at hl'; exact hl'.2
      obtain ⟨v, hv, hr⟩ := bnd_some hr
      obtain ⟨l, h1, h2⟩ := ih hl2 hr
      refine ⟨_, ?_, h2⟩
      rw [hp, loadF_eq] at hv
      simp only [gRes, gRes1, h1, hv]

theorem sDone_ok {R : List GRes} {e : Env} {ts : GFr} {h : GHeap} {o : SOut} (hsub : Sub e ts) (hd : sDone R e h = some o) : ∃ v, o = .ret v h ∧ leave R (ts, h) = some (v, h) := by
  unfold sDone at hd
  obtain ⟨hl, hd⟩ := cond_some hd
  obtain ⟨l, h1, h2⟩ := sRet_ok hsub hl hd
  cases h2
  exact ⟨_, rfl, by simp only [leave, h1]⟩

theorem sJoin_ok {R : List GRes} {X G : List (Nat × List Pth)} {L : List Pth} {r : Res} {rs : SRes} {k : List GVal → GHeap → SRes} {K : SK} {o : SOut} (hj : sJoin rs k = some o)
    (hr : ∀ o1, rs = some o1 → Post R X G (outV L) o1 r) (hk : ∀ ts' h', r = some (.normal, (ts', h')) → k (L.map (getS ts')) h' = some o → ∃ e', Sub e' ts' ∧ K e' h' = some o) : Post R X G K o r := by
  cases rs with
  | none => cases hj
  | some o1 =>
    rcases hr o1 rfl with ⟨ts', h', e', h1, h2, h3⟩ | ⟨id, L', ts', h', rfl, h2, h3⟩ | ⟨l, L', ts', h', rfl, h2, h3⟩ | ⟨v, ts', h', rfl, h2, h3⟩
    · have := outV_ok h2 h3
      subst this
      obtain ⟨e'', h4, h5⟩ := hk ts' h' h1 hj
      exact .inl ⟨ts', h', e'', h1, h4, h5⟩
    · cases hj; exact .inr (.inl ⟨id, L', ts', h', rfl, h2, h3⟩)
    · cases hj; exact .inr (.inr (.inl ⟨l, L', ts', h', rfl, h2, h3⟩))
    · cases hj; exact .inr (.inr (.inr ⟨v, ts', h', rfl, h2, h3⟩))

theorem sCode_ok {n : Nat} {R : List GRes} : ∀ (c : SCode) {X G : List (Nat × List Pth)} {e : Env} {h : GHeap} {k : SK} {o : SOut} {ts : GFr}, sCode E call n R c X G e h k = some o → Sub e ts → Post R X G k o (gCode E call n c.erase (ts, h)) := by
  intro c
  induction c with
  | skip => intro X G e h k o ts hs hsub; exact .inl ⟨ts, h, e, rfl, hsub, hs⟩
  | ops l =>
    intro X G e h k o ts hs hsub
    obtain ⟨ts', h', e', h1, h2, h3⟩ := sOps_ok l hs hsub
    refine .inl ⟨ts', h', e', ?_, h2, h3⟩
    show gOpsC E call l (ts, h) = _
    simp only [gOpsC, h1, normalC]
  | items l =>
    intro X G e h k o ts hs hsub
    obtain ⟨ts', h', e', h1, h2, h3⟩ := sItems_ok l hs hsub
    refine .inl ⟨ts', h', e', ?_, h2, h3⟩
    show gOpsC E call (flatI l) (ts, h) = _
    simp only [gOpsC, h1, normalC]
  | drawI l =>
    intro X G e h k o ts hs hsub
    obtain ⟨ts', h', e', h1, h2, h3⟩ := sItems_ok l hs hsub
    exact .inl ⟨ts', h', e', gDrawC_of h1, h2, h3⟩
  | draw chk sw l =>
    intro X G e h k o ts hs hsub
    obtain ⟨ts', h', e', h1, h2, h3⟩ := sDraw_ok hs hsub
    exact .inl ⟨ts', h', e', h1, h2, h3⟩
  | fz t esz agg a =>
    intro X G e h k o ts hs hsub
    obtain ⟨ts', h', e', h1, h2, h3⟩ := sFz_ok hs hsub
    refine .inl ⟨ts', h', e', ?_, h2, h3⟩
    show normalC (gFz esz agg a t ts h) = _
    simp only [h1, normalC]
  | seq a b iha ihb =>
    intro X G e h k o ts hs hsub
    have hg : gCode E call n (SCode.seq a b).erase (ts, h) = thenC (gCode E call n a.erase (ts, h)) (gCode E call n b.erase) := rfl
    rw [hg]
    rcases iha hs hsub with ⟨ts', h', e', h1, h2, h3⟩ | ⟨id, L', ts', h', rfl, h2, h3⟩ | ⟨l, L', ts', h', rfl, h2, h3⟩ | ⟨v, ts', h', rfl, h2, h3⟩
    · rw [h1]; exact ihb h3 h2
    · rw [h3]; exact .inr (.inl ⟨id, L', ts', h', rfl, h2, rfl⟩)
    · rw [h3]; exact .inr (.inr (.inl ⟨l, L', ts', h', rfl, h2, rfl⟩))
    · rw [h2]; exact .inr (.inr (.inr ⟨v, ts', h', rfl, rfl, h3⟩))
  | cond c a b iha ihb =>
    intro X G e h k o ts hs hsub
    obtain ⟨hl, hs⟩ := cond_some hs
    have hg : gCode E call n (SCode.cond c a b).erase (ts, h) = gCond (c.get ts) (gCode E call n a.erase) (gCode E call n b.erase) (ts, h) := rfl
    have hc : evE e c = c.get ts := by rw [evE_eq]; exact arg_agree (hsub.agree hl)
    rw [hg]
    rw [hc] at hs
    cases hb' : c.get ts with
    | bool b' =>
      rw [hb'] at hs
      cases b' with
      | true => exact iha hs hsub
      | false => exact ihb hs hsub
    | _ => rw [hb'] at hs; cases hs
  | join L c ih =>
    intro X G e h k o ts hs hsub
    refine sJoin_ok hs (fun o1 h1 => ih h1 hsub) fun ts' h' h1 h2 => ?_
    exact withVals_ok (hsub.keep fun p hp => gCode_off c (ts, h) (ts', h') _ p hp h1) h2
  | block id L c ih =>
    intro X G e h k o ts hs hsub
    have hg : gCode E call n (SCode.block id L c).erase (ts, h) = inBlockC id (gCode E call n c.erase (ts, h)) := rfl
    rw [hg]
    have hs' : sBlk id (sCode E call n R c ((id, L) :: X) G e h (outV L)) (fun vs h => withVals L vs (keep (writes c) e) fun e => k e h) = some o := hs
    cases hr : sCode E call n R c ((id, L) :: X) G e h (outV L) with
    | none => rw [hr] at hs'; cases hs'
    | some o1 =>
      rw [hr] at hs'
      have hfin : ∀ x ts' h', gCode E call n c.erase (ts, h) = some (x, (ts', h')) → withVals L (L.map (getS ts')) (keep (writes c) e) (fun e => k e h') = some o → ∃ e', Sub e' ts' ∧ k e' h' = some o :=
        fun x ts' h' h1 h2 => withVals_ok (hsub.keep fun p hp => gCode_off c (ts, h) (ts', h') x p hp h1) h2
      rcases ih hr hsub with ⟨ts', h', e', h1, h2, h3⟩ | ⟨id', L', ts', h', rfl, h2, h3⟩ | ⟨l, L', ts', h', rfl, h2, h3⟩ | ⟨v, ts', h', rfl, h2, h3⟩
      · have := outV_ok h2 h3
        subst this
        obtain ⟨e'', h4, h5⟩ := hfin _ ts' h' h1 hs'
        rw [h1]
        exact .inl ⟨ts', h', e'', rfl, h4, h5⟩
      · rw [h3]
        simp only [lkX] at h2
        have hs2 : onIf (Nat.beq id' id) (withVals L (L'.map (getS ts')) (keep (writes c) e) fun e => k e h') (some (SOut.exit id' (L'.map (getS ts')) h')) = some o := hs'
        clear hs'
        have hs' := hs2
        simp only [inBlockC]
        cases hb : Nat.beq id' id with
        | true =>
          rw [hb] at h2 hs'
          cases h2
          obtain ⟨e'', h4, h5⟩ := hfin _ ts' h' h3 hs'
          exact .inl ⟨ts', h', e'', rfl, h4, h5⟩
        | false =>
          rw [hb] at h2 hs'
          cases hs'
          exact .inr (.inl ⟨id', L', ts', h', rfl, h2, rfl⟩)
      · cases hs'; rw [h3]; exact .inr (.inr (.inl ⟨l, L', ts', h', rfl, h2, rfl⟩))
      · cases hs'; rw [h2]; exact .inr (.inr (.inr ⟨v, ts', h', rfl, rfl, h3⟩))
  | loop L c ih =>
    intro X G e h k o ts hs hsub
    obtain ⟨vs, hv, hs⟩ := bnd_some hs
    have hvs := vals_ok hsub hv
    subst hvs
    have key : ∀ m ts1 h1, (∀ p, p ∉ writes c → getS ts1 p = getS ts p) → sLoop (fun vs h => withVals L vs (keep (writes c) e) fun e => sCode E call n R c X G e h (outV L)) m (L.map (getS ts1)) h1 = some o → Post R X G k o (gLoop (gCode E call n c.erase) m (ts1, h1)) := by
      intro m
      induction m with
      | zero => intro ts1 h1 _ hs1; cases hs1
      | succ m ihm =>
        intro ts1 h1 hoff hs1
        have hs2 : sJoin (withVals L (L.map (getS ts1)) (keep (writes c) e) fun e => sCode E call n R c X G e h1 (outV L)) (sLoop (fun vs h => withVals L vs (keep (writes c) e) fun e => sCode E call n R c X G e h (outV L)) m) = some o := hs1
        have hg : gLoop (gCode E call n c.erase) (m + 1) (ts1, h1) = thenC (gCode E call n c.erase (ts1, h1)) (gLoop (gCode E call n c.erase) m) := rfl
        rw [hg]
        cases hr : withVals L (L.map (getS ts1)) (keep (writes c) e) fun e => sCode E call n R c X G e h1 (outV L) with
        | none => rw [hr] at hs2; cases hs2
        | some o1 =>
          rw [hr] at hs2
          obtain ⟨e', h2, h3⟩ := withVals_ok (hsub.keep hoff) hr
          rcases ih h3 h2 with ⟨ts', h', e', h1', h2, h3⟩ | ⟨id', L', ts', h', rfl, h2, h3⟩ | ⟨l, L', ts', h', rfl, h2, h3⟩ | ⟨v, ts', h', rfl, h2, h3⟩
          · have := outV_ok h2 h3
            subst this
            rw [h1']
            exact ihm ts' h' (fun p hp => by rw [gCode_off c (ts1, h1) (ts', h') _ p hp h1', hoff p hp]) hs2
          · cases hs2; rw [h3]; exact .inr (.inl ⟨id', L', ts', h', rfl, h2, rfl⟩)
          · cases hs2; rw [h3]; exact .inr (.inr (.inl ⟨l, L', ts', h', rfl, h2, rfl⟩))
          · cases hs2; rw [h2]; exact .inr (.inr (.inr ⟨v, ts', h', rfl, rfl, h3⟩))
    exact key n ts h (fun _ _ => rfl) hs
  | exit id =>
    intro X G e h k o ts hs hsub
    obtain ⟨L, hL, hs⟩ := bnd_some hs
    obtain ⟨vs, hv, hs⟩ := bnd_some hs
    cases hs
    rw [vals_ok hsub hv]
    exact .inr (.inl ⟨id, L, ts, h, rfl, hL, rfl⟩)
  | scope c l Lg r La ihc ihr =>
    intro X G e h k o ts hs hsub
    have hoffc : ∀ ts' h' x, gCode E call n c.erase (ts, h) = some (x, (ts', h')) → ∀ p, p ∉ writes c ++ writes r → getS ts' p = getS ts p :=
      fun ts' h' x h1 p hp => gCode_off c (ts, h) (ts', h') x p (fun hm => hp (List.mem_append_left _ hm)) h1
    have key : ∀ m (q : Res) (rs : SRes), (∀ x ts' h', q = some (x, (ts', h')) → ∀ p, p ∉ writes c ++ writes r → getS ts' p = getS ts p) → (∀ o1, rs = some o1 → Post R X ((l, Lg) :: G) (outV La) o1 q) →
        ∀ o2, sJumps l (fun vs h => withVals Lg vs (keep (writes c ++ writes r) e) fun e => sCode E call n R r X ((l, Lg) :: G) e h (outV La)) m rs = some o2 → Post R X G (outV La) o2 (gJumps l (gCode E call n r.erase) m q) := by
      intro m
      induction m with
      | zero => intro q rs _ _ o2 h2; cases h2
      | succ m ihm =>
        intro q rs hq hp o2 h2
        have h2' : sJumpC l rs (fun vs h => sJumps l (fun vs h => withVals Lg vs (keep (writes c ++ writes r) e) fun e => sCode E call n R r X ((l, Lg) :: G) e h (outV La)) m (withVals Lg vs (keep (writes c ++ writes r) e) fun e => sCode E call n R r X ((l, Lg) :: G) e h (outV La))) = some o2 := h2
        cases hrs : rs with
        | none => rw [hrs] at h2'; cases h2'
        | some o1 =>
          rw [hrs] at h2'
          rcases hp o1 hrs with ⟨ts', h', e', h1', g2, g3⟩ | ⟨id', L', ts', h', rfl, g2, g3⟩ | ⟨l', L', ts', h', rfl, g2, g3⟩ | ⟨v, ts', h', rfl, g2, g3⟩
          · have := outV_ok g2 g3
            subst this
            cases h2'
            rw [h1']
            exact .inl ⟨ts', h', e', rfl, g2, g3⟩
          · cases h2'; rw [g3]; exact .inr (.inl ⟨id', L', ts', h', rfl, g2, rfl⟩)
          · rw [g3]
            simp only [lkX] at g2
            have hgj : gJumps l (gCode E call n r.erase) (m + 1) (some (.goto l', (ts', h'))) = (bif Nat.beq l' l then gJumps l (gCode E call n r.erase) m (gCode E call n r.erase (ts', h')) else some (.goto l', (ts', h'))) := rfl
            rw [hgj]
            have h22 : onIf (Nat.beq l' l) (sJumps l (fun vs h => withVals Lg vs (keep (writes c ++ writes r) e) fun e => sCode E call n R r X ((l, Lg) :: G) e h (outV La)) m (withVals Lg (L'.map (getS ts')) (keep (writes c ++ writes r) e) fun e => sCode E call n R r X ((l, Lg) :: G) e h' (outV La))) (some (SOut.goto l' (L'.map (getS ts')) h')) = some o2 := h2'
            clear h2'
            have h2' := h22
            cases hb : Nat.beq l' l with
            | true =>
              rw [hb] at g2 h2'
              cases g2
              simp only [cond_true, onIf] at h2' ⊢
              refine ihm _ _ (fun x ts2 h2 hx p hp' => ?_) (fun o3 h3' => ?_) o2 h2'
              · rw [gCode_off r (ts', h') (ts2, h2) x p (fun hm => hp' (List.mem_append_right _ hm)) hx]
                exact hq _ ts' h' g3 p hp'
              · obtain ⟨e', h4, h5⟩ := withVals_ok (hsub.keep (hq _ ts' h' g3)) h3'
                exact ihr h5 h4
            | false =>
              rw [hb] at g2 h2'
              cases h2'
              exact .inr (.inr (.inl ⟨l', L', ts', h', rfl, g2, rfl⟩))
          · cases h2'; rw [g2]; exact .inr (.inr (.inr ⟨v, ts', h', rfl, rfl, g3⟩))
    have hoff2 : ∀ x ts' h', gJumps l (gCode E call n r.erase) n (gCode E call n c.erase (ts, h)) = some (x, (ts', h')) → ∀ p, p ∉ writes c ++ writes r → getS ts' p = getS ts p := fun x ts' h' hx p hp =>
      gJumps_off (t0 := getS ts p) (fun s x s' e => gCode_off r s s' x p (fun hm => hp (List.mem_append_right _ hm)) e) n _ x (ts', h') (fun y s1 h1 => hoffc s1.1 s1.2 y h1 p hp) hx
    refine sJoin_ok hs (fun o1 h1 => key n _ _ (fun x ts' h' hx => hoffc ts' h' x hx) (fun o1 h1 => ihc h1 hsub) o1 h1) fun ts' h' h1 h2 => ?_
    exact withVals_ok (hsub.keep (hoff2 _ ts' h' h1)) h2
  | label l => intro X G e h k o ts hs hsub; exact .inl ⟨ts, h, e, rfl, hsub, hs⟩
  | goto l =>
    intro X G e h k o ts hs hsub
    obtain ⟨L, hL, hs⟩ := bnd_some hs
    obtain ⟨vs, hv, hs⟩ := bnd_some hs
    cases hs
    rw [vals_ok hsub hv]
    exact .inr (.inr (.inl ⟨l, L, ts, h, rfl, hL, rfl⟩))
  | ret =>
    intro X G e h k o ts hs hsub
    obtain ⟨v, rfl, hl⟩ := sDone_ok hsub hs
    exact .inr (.inr (.inr ⟨v, ts, h, rfl, rfl, hl⟩))
  | refuse => intro X G e h k o ts hs; cases hs

theorem gFrame_other {p : Pth} : ∀ (args : List GVal) (i : Nat) (ts : GFr), (∀ j, i ≤ j → p ≠ pth j) → getS (gFrame args i ts) p = getS ts p := by
  intro args
  induction args with
  | nil => intro i ts _; rfl
  | cons v args ih =>
    intro i ts hp
    rw [gFrame, ih _ _ fun j hj => hp j (by have : i + 1 ≤ j := hj; omega)]
    exact getS_set_ne _ _ _ _ (hp i (Nat.le_refl _))

theorem argPs_lt {p : Pth} : ∀ {n i : Nat}, p ∈ argPs n i → ∃ j, i ≤ j ∧ p = pth j := by
  intro n
  induction n with
  | zero => intro i h; cases h
  | succ n ih =>
    intro i h
    rcases List.mem_cons.mp h with rfl | h
    · exact ⟨i, Nat.le_refl _, rfl⟩
    · obtain ⟨j, h1, h2⟩ := ih h; exact ⟨j, by omega, h2⟩

theorem args_vals : ∀ (args : List GVal) (n i : Nat) (ts : GFr), args.length = n → (argPs n i).map (getS (gFrame args i ts)) = args := by
  intro args
  induction args with
  | nil => intro n i ts h; subst h; rfl
  | cons v args ih =>
    intro n i ts h
    subst h
    simp only [List.length_cons, argPs, List.map_cons]
    rw [show gFrame (v :: args) i ts = gFrame args (i + 1) (Tr.set v (pth i) ts) from rfl, ih _ _ _ rfl, gFrame_other args (i + 1) _ fun j hj e => by have := pth_inj e; omega, getS_set_same]

theorem withVals_len {k : Env → SRes} {o : SOut} : ∀ {L : List Pth} {vs : List GVal} {e : Env}, withVals L vs e k = some o → vs.length = L.length := by
  intro L
  induction L with
  | nil => intro vs e h; cases vs with | nil => rfl | cons v vs => cases h
  | cons p L ih => intro vs e h; cases vs with | nil => cases h | cons v vs => simp only [List.length_cons]; rw [ih h]

theorem argPs_length : ∀ n i, (argPs n i).length = n := by
  intro n
  induction n with
  | zero => intro i; rfl
  | succ n ih => intro i; simp only [argPs, List.length_cons, ih]

/-- What the swift form of a function finds, the ghost finds. -/
theorem sRun_ok {s : SFunc} {n : Nat} {args : List GVal} {h : GHeap} {r : GVal × GHeap} (hr : sRun s E call n args h = some r) : runF E call n s.erase args h = some r := by
  unfold sRun at hr
  cases hw : withVals (argPs s.nargs 0) args [] fun e => sCode E call n s.results s.body [] [] e h (sDone s.results) with
  | none => rw [hw] at hr; cases hr
  | some o =>
    rw [hw] at hr
    have hlen := withVals_len hw
    rw [argPs_length] at hlen
    have hav := args_vals args s.nargs 0 .nil hlen
    have hw' := hw
    rw [← hav] at hw'
    obtain ⟨e, h1, h2⟩ := withVals_ok (Sub.nil _) hw'
    have hb : Nat.beq args.length s.erase.nargs = true := by rw [hlen]; exact Nat.beq_refl _
    unfold runF
    rw [hb]
    simp only [cond_true]
    have hbody : s.erase.body = s.body.erase := rfl
    have hres : s.erase.results = s.results := rfl
    rw [hbody, hres]
    rcases sCode_ok s.body h2 h1 with ⟨ts', h', e', h1', h2, h3⟩ | ⟨id', L', ts', h', rfl, h2, h3⟩ | ⟨l', L', ts', h', rfl, h2, h3⟩ | ⟨v, ts', h', rfl, h2, h3⟩
    · obtain ⟨v, rfl, hl⟩ := sDone_ok h2 h3
      rw [h1']
      cases hr
      exact hl
    · cases hr
    · cases hr
    · rw [h2]
      cases hr
      exact h3
end
end Go.Gh

/-
  THE GHOST MACHINE: a region that draws its order: one operation's turn.
  No claim is proved here.
-/
namespace Go.Gh

/-- What the check of a region says. -/
structure Stat (es : List (List Nat)) (l : List GOper) (b : List Nat) (chk : List (Nat × Nat)) (sw : Option (Nat × Nat)) : Prop where
  edge : ∀ (i : Nat) (e : List Nat), es[i]? = some e → ∀ k ∈ e, k < i
  dist : Distinct l
  pair : ∀ i j (hi : i < l.length) (hj : j < l.length), i ≠ j → cmpG b i j = true ∨ ((∀ d, l[j].dst = some d → d ∉ l[i].looks) ∧ kindsOk chk sw i j l[i] l[j] = true)
  chk : ∀ p ∈ chk, ∀ (h : p.1 < l.length), ∀ j (hj : j < l.length), p.1 ≤ j → ∀ d, l[j].dst = some d → d ∉ l[p.1].looks
  sw : ∀ p, sw = some p → p.1 < p.2 ∧ p.2 < l.length ∧ (∀ (h : p.1 < l.length), ∀ j (hj : j < l.length), p.1 ≤ j → ∀ d, l[j].dst = some d → d ∉ l[p.1].looks) ∧
    (∀ (h : p.2 < l.length), ∀ j (hj : j < l.length), p.2 ≤ j → ∀ d, l[j].dst = some d → d ∉ l[p.2].looks) ∧
    ∀ k (hk : k < l.length), l[k].op.kind ≠ 0 → k ≠ p.1 → k ≠ p.2 → k < p.1 ∧ (b.getD p.1 0).testBit k = true ∧ (b.getD p.2 0).testBit k = true

theorem edgesLt_spec : ∀ (es : List (List Nat)) (n : Nat), edgesLt es n = true → ∀ i e, es[i]? = some e → ∀ k ∈ e, k < n + i := by
  intro es
  induction es with
  | nil => intro n _ i e h; simp at h
  | cons x es ih =>
    intro n h i e he k hk
    simp only [edgesLt, Bool.and_eq_true, List.all_eq_true] at h
    cases i with
    | zero =>
      simp only [List.getElem?_cons_zero, Option.some.injEq] at he; subst he
      exact Nat.le_of_ble_eq_true (h.1 k hk)
    | succ i =>
      have := ih (Nat.succ n) h.2 i e (by simpa using he) k hk
      have e1 : Nat.succ n = n + 1 := rfl
      omega

theorem offFrom_spec {i : Nat} {l : List GOper} {o : GOper} (h : offFrom i l o = true) : ∀ j (hj : j < l.length), i ≤ j → ∀ d, l[j].dst = some d → d ∉ o.looks := by
  intro j hj hij d hd
  unfold offFrom at h
  rw [List.all_eq_true] at h
  have hm : l[j] ∈ l.drop i := by
    have : l[j] = (l.drop i)[j - i]'(by simp; omega) := by
      simp only [List.getElem_drop]; congr 1; omega
    rw [this]; exact List.getElem_mem _
  exact offs_spec (h _ hm) d hd

theorem stat_of {es : List (List Nat)} {l : List GOper} {b : List Nat} {chk : List (Nat × Nat)} {sw : Option (Nat × Nat)} (h : statics es l b chk sw = true) : Stat es l b chk sw := by
  unfold statics at h
  simp only [Bool.and_eq_true] at h
  obtain ⟨⟨⟨h1, h2⟩, h3⟩, h4⟩ := h
  unfold pairsOk at h2
  simp only [List.all_eq_true] at h2
  have hz : ∀ i (hi : i < l.length), (l[i], i) ∈ l.zipIdx := fun i hi => by
    rw [List.mem_iff_getElem]
    exact ⟨i, by simpa using hi, by simp⟩
  have hp : ∀ i j (hi : i < l.length) (hj : j < l.length), i ≠ j → dstNe l[i] l[j] = true ∧ (cmpG b i j = true ∨ (offs l[j] l[i].looks = true ∧ kindsOk chk sw i j l[i] l[j] = true)) := fun i j hi hj hne => by
    have := h2 _ (hz i hi) _ (hz j hj)
    unfold pairOk at this
    simp only [Bool.or_eq_true, Bool.and_eq_true] at this
    rcases this with h | h
    · exact absurd (Nat.eq_of_beq_eq_true h) hne
    · exact h
  refine ⟨fun i e he k hk => by have := edgesLt_spec es 0 h1 i e he k hk; omega, fun i j hi hj d hdi hdj => ?_, fun i j hi hj hne => ?_, fun p hp' h => ?_, fun p hp' => ?_⟩
  · by_cases e : i = j
    · exact e
    · have := (hp i j hi hj e).1
      unfold dstNe at this
      rw [hdi] at this
      exact absurd (List.mem_singleton.mpr rfl) (offs_spec this d hdj)
  · rcases (hp i j hi hj hne).2 with h | ⟨h, h'⟩
    · exact .inl h
    · exact .inr ⟨fun d hd => offs_spec h d hd, h'⟩
  · unfold chkOk at h3
    rw [List.all_eq_true] at h3
    have := h3 p hp'
    rw [nth_eq, List.getElem?_eq_getElem h] at this
    exact offFrom_spec this
  · unfold swOk at h4
    rw [hp'] at h4
    simp only [Bool.and_eq_true] at h4
    obtain ⟨h5, h6⟩ := h4
    have h5 : p.1 < p.2 := Nat.le_of_ble_eq_true h5
    rw [nth_eq, nth_eq] at h6
    split at h6
    · rename_i oi oj hoi hoj
      have hl1 : p.1 < l.length := by
        rcases Nat.lt_or_ge p.1 l.length with h | h
        · exact h
        · rw [List.getElem?_eq_none h] at hoi; cases hoi
      have hl2 : p.2 < l.length := by
        rcases Nat.lt_or_ge p.2 l.length with h | h
        · exact h
        · rw [List.getElem?_eq_none h] at hoj; cases hoj
      rw [List.getElem?_eq_getElem hl1] at hoi; cases hoi
      rw [List.getElem?_eq_getElem hl2] at hoj; cases hoj
      simp only [Bool.and_eq_true, List.all_eq_true] at h6
      refine ⟨h5, hl2, fun _ => offFrom_spec h6.1.1, fun _ => offFrom_spec h6.1.2, fun k hk h0 h1 h2 => ?_⟩
      have := h6.2 _ (hz k hk)
      simp only [Bool.or_eq_true, Bool.and_eq_true] at this
      rcases this with ((h | h) | h) | h
      · exact absurd (Nat.eq_of_beq_eq_true h) h0
      · exact absurd (Nat.eq_of_beq_eq_true h) h1
      · exact absurd (Nat.eq_of_beq_eq_true h) h2
      · exact ⟨Nat.le_of_ble_eq_true h.1.1, h.1.2, h.2⟩
    · cases h6

/-- Closed under the edges. -/
def Closed (es : List (List Nat)) (S : Nat → Prop) : Prop := ∀ (i : Nat) (e : List Nat), es[i]? = some e → S i → ∀ k ∈ e, S k

section
variable {es : List (List Nat)} {l : List GOper} {chk : List (Nat × Nat)} {sw : Option (Nat × Nat)} {S : Nat → Prop}

theorem bits (hlen : es.length = l.length) (hC : Closed es S) {i : Nat} (hi : i < l.length) (hr : ∀ (e : List Nat), es[i]? = some e → ∀ k ∈ e, S k) : ∀ m, ((befG es 0 []).getD i 0).testBit m = true → S m := by
  have hl : i < es.length := by omega
  exact befG_closed S es hC es 0 [] rfl rfl (fun i h => absurd h (Nat.not_lt_zero _)) i es[i] (List.getElem?_eq_getElem hl) (hr _ (List.getElem?_eq_getElem hl))

/-- What comes in one order alone with i comes in the text's order. -/
theorem ord (hlen : es.length = l.length) (hC : Closed es S) {i j : Nat} (hi : i < l.length) (hj : j < l.length) (hne : i ≠ j) (hni : ¬ S i) (hr : ∀ (e : List Nat), es[i]? = some e → ∀ k ∈ e, S k) (hc : cmpG (befG es 0 []) i j = true) : S j ↔ j < i := by
  unfold cmpG at hc
  cases hb : Nat.blt i j with
  | true =>
    rw [hb] at hc
    simp only [cond_true] at hc
    have hij : i < j := Nat.le_of_ble_eq_true hb
    refine ⟨fun hS => ?_, fun h => by omega⟩
    exact absurd (bits hlen hC hj (fun e he => hC j e he hS) i hc) hni
  | false =>
    rw [hb] at hc
    simp only [cond_false] at hc
    have hij : ¬ i < j := fun h => by
      have : Nat.blt i j = true := Nat.ble_eq_true_of_le h
      rw [hb] at this; cases this
    exact ⟨fun _ => by omega, fun _ => bits hlen hC hi hr j hc⟩
end

/-! ### Two stores change places -/
theorem set_comm {α : Type} (x y : α) : ∀ (p q : Pth) (t : Tr α), p ≠ q → Tr.set x p (Tr.set y q t) = Tr.set y q (Tr.set x p t) := by
  intro p
  induction p with
  | e =>
    intro q t h
    cases q with
    | e => exact absurd rfl h
    | l q => simp
    | r q => simp
  | l p ih =>
    intro q t h
    cases q with
    | e => simp
    | l q => simp only [Tr.set_l, Tr.val_node, Tr.lft_node, Tr.rgt_node]; rw [ih q _ fun e => h (by rw [e])]
    | r q => simp
  | r p ih =>
    intro q t h
    cases q with
    | e => simp
    | l q => simp
    | r q => simp only [Tr.set_r, Tr.val_node, Tr.lft_node, Tr.rgt_node]; rw [ih q _ fun e => h (by rw [e])]

theorem heap_comm (h : GHeap) {k k' : Nat} (hne : k ≠ k') (b b' : GBlock) : (h.set k b).set k' b' = (h.set k' b').set k b := by
  unfold GHeap.set
  simp only
  rw [set_comm _ _ _ _ _ (pth_ne (Ne.symm hne))]

theorem gStore_block {h h' : GHeap} {n k o : Nat} {x : GVal} (hs : gStore h n (.ptr k o) x = some h') : ∃ b, h' = h.set k b ∧ ∀ g : GHeap, g.get k = h.get k → gStore g n (.ptr k o) x = some (g.set k b) := by
  simp only [gStore] at hs
  cases hn : notTup x with
  | false => rw [hn] at hs; cases hs
  | true =>
    rw [hn] at hs
    simp only [cond_true] at hs
    cases hb : h.get k with
    | none => simp [hb, stBlock] at hs
    | some b =>
      cases b <;> simp only [hb, stBlock, reduceCtorEq] at hs
      case cells vals lo gr =>
        unfold stCells at hs
        cases hc : (Nat.beq x.cells.length n && Nat.ble (Nat.add o n) vals.length && Nat.ble lo o) with
        | false => rw [hc] at hs; cases hs
        | true =>
          rw [hc] at hs
          simp only [cond_true, Option.some.injEq] at hs
          refine ⟨_, hs.symm, fun g hg => ?_⟩
          simp only [gStore, hn, cond_true, hg, stBlock, stCells, hc]

theorem swap_stores {h h1 h2 : GHeap} {n n' k k' o o' : Nat} {x x' : GVal} (hne : k ≠ k') (hs : gStore h n (.ptr k o) x = some h1) (hs' : gStore h1 n' (.ptr k' o') x' = some h2) :
    ∃ h1', gStore h n' (.ptr k' o') x' = some h1' ∧ gStore h1' n (.ptr k o) x = some h2 := by
  obtain ⟨b, rfl, hg⟩ := gStore_block hs
  obtain ⟨b', rfl, hg'⟩ := gStore_block hs'
  refine ⟨h.set k' b', hg' h ?_, ?_⟩
  · rw [GHeap.get_set, if_neg (Ne.symm hne)]
  · rw [heap_comm _ hne]
    exact hg _ (by rw [GHeap.get_set, if_neg hne])
end Go.Gh

/-
  THE GHOST MACHINE: a region that draws its order: one operation's turn, whatever stands before it.
  No claim is proved here.
-/
namespace Go.Gh

section
variable {E : GEnv} {call : CallF} {l : List GOper} {T : Nat → GFr} {H : Nat → GHeap} {V : Nat → GVal} {es : List (List Nat)} {chk : List (Nat × Nat)} {sw : Option (Nat × Nat)} {S : Nat → Prop}

theorem Seq.later (hs : Seq E call l T H V) {r : Nat} {p : Pth} : ∀ k, r ≤ k → k ≤ l.length → (∀ j (hj : j < l.length), r ≤ j → j < k → l[j].dst ≠ some p) → getS (T k) p = getS (T r) p := by
  intro k
  induction k with
  | zero => intro h _ _; have : r = 0 := by omega
            subst this; rfl
  | succ k ih =>
    intro h1 h2 h3
    by_cases e : r = k + 1
    · subst e; rfl
    · rw [hs.put k (by omega), getS_put, if_neg (h3 k (by omega) (by omega) (by omega))]
      exact ih (by omega) (by omega) fun j hj h4 h5 => h3 j hj h4 (by omega)

theorem Seq.final_agree (hs : Seq E call l T H V) {r : Nat} (hr : r < l.length) (h : ∀ j (hj : j < l.length), r ≤ j → ∀ d, l[j].dst = some d → d ∉ l[r].looks) : Agree (T l.length) (T r) l[r].looks := fun p hp =>
  hs.later _ (by omega) (Nat.le_refl _) fun j hj h1 _ hd => h j hj h1 p hd hp

/-- A read yields the same in each memory that the checks name. -/
theorem read_any (hs : Seq E call l T H V) (st : Stat es l (befG es 0 []) chk sw) {hl : List GHeap} (hhl : ∀ k, k ≤ l.length → hl[k]? = some (H k)) (hck : chkAll l (T l.length) hl chk = true)
    {i : Nat} (hi : i < l.length) (hk : l[i].op.kind = 1) (hw : wanted (T i) l[i].guard = true) : ∀ p, p ≤ l.length → (∀ e (he : e < l.length), l[e].op.kind = 2 → (p ≤ e ∧ e < i) ∨ (i ≤ e ∧ e < p) → hasN i e chk = true) →
    readAgain l[i].op (H p) (GArg.get (T i)) = some (V i) := by
  have hgood : readAgain l[i].op (H i) (GArg.get (T i)) = some (V i) := by
    have := hs.yes i hi hw
    cases ho : l[i].op with
    | p o => rw [ho] at hk; cases hk
    | e o => rw [ho] at hk; cases hk
    | r o =>
      rw [ho] at this
      simp only [gOp] at this
      simp only [readAgain]
      cases hv : gRead o (H i) (GArg.get (T i)) with
      | none => simp [hv, withH] at this
      | some v => simp only [hv, withH, Option.some.injEq, Prod.mk.injEq] at this; rw [this.1]
  have one : ∀ e, hasN i e chk = true → ∀ q, q = (bif Nat.blt e i then e else Nat.succ e) → q ≤ l.length → readAgain l[i].op (H q) (GArg.get (T i)) = some (V i) := fun e he q hq hql => by
    have hmem := hasN_iff he
    have hall : ∀ (c : List (Nat × Nat)), chkAll l (T l.length) hl c = true → ∀ p ∈ c, chkOne l (T l.length) hl p.1 p.2 = true := fun c => by
      induction c with
      | nil => intro _ p hp; cases hp
      | cons a c ih =>
        intro h p hp
        simp only [chkAll, Bool.and_eq_true] at h
        rcases List.mem_cons.mp hp with rfl | hp
        · exact h.1
        · exact ih h.2 p hp
    have h1 := hall chk hck (i, e) hmem
    have hag := hs.final_agree hi (st.chk (i, e) hmem hi)
    unfold chkOne at h1
    simp only at h1
    rw [nth_eq, List.getElem?_eq_getElem hi] at h1
    simp only at h1
    rw [guard_agree hag, hw] at h1
    simp only [cond_true] at h1
    rw [← hq, nth_eq, hhl q hql] at h1
    cases hd : l[i].dst with
    | none => rw [hd] at h1; cases h1
    | some d =>
      rw [hd] at h1
      simp only at h1
      have hra : readAgain l[i].op (H q) (GArg.get (T l.length)) = readAgain l[i].op (H q) (GArg.get (T i)) := by
        cases ho : l[i].op with
        | p o => rfl
        | e o => rfl
        | r o =>
          simp only [readAgain]
          have : Agree (T l.length) (T i) o.slots := by
            have := hag
            unfold GOper.looks at this
            rw [ho] at this
            exact this.left
          exact read_agree _ this
      rw [hra] at h1
      cases hv : readAgain l[i].op (H q) (GArg.get (T i)) with
      | none => simp [hv] at h1
      | some v =>
        simp only [hv] at h1
        rw [same_eq _ _ h1, hs.written st.dist hi hd _ hi (Nat.le_refl _)]
  -- below
  have down : ∀ m p, p + m = i → (∀ e (he : e < l.length), l[e].op.kind = 2 → p ≤ e → e < i → hasN i e chk = true) → readAgain l[i].op (H p) (GArg.get (T i)) = some (V i) := by
    intro m
    induction m with
    | zero => intro p hp _; have : p = i := by omega
              subst this; exact hgood
    | succ m ih =>
      intro p hp hc
      have hpl1 : p < l.length := by omega
      by_cases hkp : l[p].op.kind = 2
      · refine one p (hc p (by omega) hkp (Nat.le_refl _) (by omega)) p ?_ (by omega)
        have : Nat.blt p i = true := Nat.ble_eq_true_of_le (by omega)
        rw [this]; rfl
      · rw [← hs.still (by omega) hkp]
        exact ih (p + 1) (by omega) fun e he h1 h2 h3 => hc e he h1 (by omega) h3
  have up : ∀ m p, i + m = p → p ≤ l.length → (∀ e (he : e < l.length), l[e].op.kind = 2 → i ≤ e → e < p → hasN i e chk = true) → readAgain l[i].op (H p) (GArg.get (T i)) = some (V i) := by
    intro m
    induction m with
    | zero => intro p hp _ _; have : p = i := by omega
              subst this; exact hgood
    | succ m ih =>
      intro p hp hpl hc
      have hp1 : p - 1 < l.length := by omega
      by_cases hkp : l[p - 1].op.kind = 2
      · refine one (p - 1) (hc (p - 1) hp1 hkp (by omega) (by omega)) p ?_ hpl
        have : Nat.blt (p - 1) i = false := by
          cases hb : Nat.blt (p - 1) i with
          | false => rfl
          | true => have : p - 1 < i := Nat.le_of_ble_eq_true hb
                    omega
        rw [this]
        simp only [cond_false]
        have e1 : Nat.succ (p - 1) = p - 1 + 1 := rfl
        omega
      · have := hs.still hp1 hkp
        rw [show p - 1 + 1 = p by omega] at this
        rw [this]
        exact ih (p - 1) (by omega) (by omega) fun e he h1 h2 h3 => hc e he h1 h2 (by omega)
  intro p hp hc
  rcases Nat.le_total p i with h | h
  · exact down (i - p) p (by omega) fun e he h1 h2 h3 => hc e he h1 (.inl ⟨h2, h3⟩)
  · exact up (p - i) p (by omega) hp fun e he h1 h2 h3 => hc e he h1 (.inr ⟨h2, h3⟩)

/-- The memory when the operations of S are done. -/
inductive HI (E : GEnv) (call : CallF) (l : List GOper) (T : Nat → GFr) (H : Nat → GHeap) (V : Nat → GVal) (S : Nat → Prop) (h : GHeap) : Prop where
  | plain (p : Nat) (hp : p ≤ l.length) (e : h = H p) (hs : ∀ e (he : e < l.length), l[e].op.kind = 2 → (S e ↔ e < p))
  | swapped (x : Nat) (hx : x < l.length) (hk : l[x].op.kind = 2) (hnx : ¬ S x) (hall : ∀ k (hk : k < l.length), l[k].op.kind ≠ 0 → k ≠ x → S k)
      (hw : wanted (T x) l[x].guard = true) (hgo : gOp E call h (GArg.get (T x)) l[x].op = some (V x, H l.length))

theorem storeAt_spec {o : GOper} {t : GFr} {k : Nat} (h : storeAt? o t = some k) : o.guard = none ∧ ∃ n a x off, o.op = .e (.store n a x) ∧ a.get t = .ptr k off := by
  unfold storeAt? at h
  split at h
  · cases h
  · rename_i hg
    refine ⟨hg, ?_⟩
    split at h
    · rename_i n a x ho
      split at h
      · rename_i k' off ha
        simp only [Option.some.injEq] at h; subst h
        exact ⟨n, a, x, off, ho, ha⟩
      · cases h
    · cases h

theorem gOp_store {h h' : GHeap} {ev : Ev} {n : Nat} {a x : GArg} {v : GVal} (hr : gOp E call h ev (.e (.store n a x)) = some (v, h')) : v = gundef ∧ gStore h n (ev a) (ev x) = some h' := by
  simp only [gOp, gEff, gStoreE] at hr
  split at hr
  · rename_i g hg
    simp only [Option.some.injEq, Prod.mk.injEq] at hr
    exact ⟨hr.1.symm, by rw [hg, hr.2]⟩
  · cases hr

theorem gOp_store' {h h' : GHeap} {ev : Ev} {n : Nat} {a x : GArg} (hr : gStore h n (ev a) (ev x) = some h') : gOp E call h ev (.e (.store n a x)) = some (gundef, h') := by
  simp only [gOp, gEff, gStoreE, hr]
end
end Go.Gh

/-
  THE GHOST MACHINE: a region that draws its order: one operation's turn, the sum.
  No claim is proved here.
-/
namespace Go.Gh

section
variable {E : GEnv} {call : CallF} {l : List GOper} {T : Nat → GFr} {H : Nat → GHeap} {V : Nat → GVal} {es : List (List Nat)} {chk : List (Nat × Nat)} {sw : Option (Nat × Nat)} {S : Nat → Prop}

theorem HI.more {h : GHeap} (hh : HI E call l T H V S h) {i : Nat} (hi : i < l.length) (hk : l[i].op.kind ≠ 2) : HI E call l T H V (fun j => S j ∨ j = i) h := by
  cases hh with
  | plain p hp e hs =>
    refine .plain p hp e fun j hj hkj => ?_
    have hne : j ≠ i := fun e => by subst e; exact hk hkj
    exact ⟨fun h => (hs j hj hkj).1 (h.resolve_right hne), fun h => .inl ((hs j hj hkj).2 h)⟩
  | swapped x hx hkx hnx hall hw hgo =>
    have hne : x ≠ i := fun e => by subst e; exact hk hkx
    exact .swapped x hx hkx (fun h => hnx (h.resolve_right hne)) (fun k hk h0 h1 => .inl (hall k hk h0 h1)) hw hgo

theorem kindsOk_12 {i j : Nat} {oi oj : GOper} (h : kindsOk chk sw i j oi oj = true) (h1 : oi.op.kind = 1) (h2 : oj.op.kind = 2) : hasN i j chk = true := by
  unfold kindsOk at h; rw [h1, h2] at h; exact h
theorem kindsOk_22 {i j : Nat} {oi oj : GOper} (h : kindsOk chk sw i j oi oj = true) (h1 : oi.op.kind = 2) (h2 : oj.op.kind = 2) : sw = some (i, j) ∨ sw = some (j, i) := by
  unfold kindsOk at h; rw [h1, h2] at h
  simp only at h
  unfold swIs at h
  split at h
  · rename_i p
    simp only [Bool.or_eq_true, Bool.and_eq_true] at h
    obtain ⟨a, b⟩ := p
    rcases h with ⟨h1, h2⟩ | ⟨h1, h2⟩
    · have e1 : a = i := Nat.eq_of_beq_eq_true h1
      have e2 : b = j := Nat.eq_of_beq_eq_true h2
      exact .inl (by rw [e1, e2])
    · have e1 : a = j := Nat.eq_of_beq_eq_true h1
      have e2 : b = i := Nat.eq_of_beq_eq_true h2
      exact .inr (by rw [e1, e2])
  · cases h

theorem Seq.heap_eq (hs : Seq E call l T H V) {p q : Nat} (hp : p ≤ l.length) (hq : q ≤ l.length) (h : ∀ e (he : e < l.length), l[e].op.kind = 2 → ¬ (p ≤ e ∧ e < q) ∧ ¬ (q ≤ e ∧ e < p)) : H p = H q := by
  rcases Nat.le_total p q with hpq | hpq
  · exact (hs.same_heap q hpq hq fun i hi h1 h2 h3 => (h i hi h3).1 ⟨h1, h2⟩).symm
  · exact hs.same_heap p hpq hp fun i hi h1 h2 h3 => (h i hi h3).2 ⟨h1, h2⟩

theorem turn (hs : Seq E call l T H V) (st : Stat es l (befG es 0 []) chk sw) (hlen : es.length = l.length) {hl : List GHeap} (hhl : ∀ k, k ≤ l.length → hl[k]? = some (H k)) (hck : chkAll l (T l.length) hl chk = true)
    (hswc : chkSw l (T l.length) sw = true) (hC : Closed es S) {i : Nat} (hi : i < l.length) (hni : ¬ S i) (hr : ∀ (e : List Nat), es[i]? = some e → ∀ k ∈ e, S k) {t : GFr} (hcur : Cur l T V S t) {h : GHeap} (hh : HI E call l T H V S h) :
    (wanted t l[i].guard = true ∧ ∃ h', gOp E call h (GArg.get t) l[i].op = some (V i, h') ∧ HI E call l T H V (fun j => S j ∨ j = i) h') ∨
    (wanted t l[i].guard = false ∧ V i = gundef ∧ HI E call l T H V (fun j => S j ∨ j = i) h) := by
  have hord : ∀ j (hj : j < l.length), j ≠ i → cmpG (befG es 0 []) i j = true → (S j ↔ j < i) := fun j hj hne hc => ord hlen hC hi hj (Ne.symm hne) hni hr hc
  have hagr : Agree t (T i) l[i].looks := hcur.agree hs st.dist hi hni fun j hj hne => by
    rcases st.pair i j hi hj (Ne.symm hne) with hc | hc
    · exact .inr (hord j hj hne hc)
    · exact .inl hc.1
  have hg := guard_agree hagr
  have hsl : Agree t (T i) l[i].op.slots := by
    have := hagr
    unfold GOper.looks at this
    exact this.left
  have hop : ∀ g, gOp E call g (GArg.get t) l[i].op = gOp E call g (GArg.get (T i)) l[i].op := fun g => op_agree E call g hsl
  rw [hg]
  -- an effect, all others in the text's order
  have plainEff : ∀ p, p ≤ l.length → (∀ e (he : e < l.length), l[e].op.kind = 2 → (S e ↔ e < p)) → l[i].op.kind = 2 → (∀ e (he : e < l.length), l[e].op.kind = 2 → e ≠ i → (S e ↔ e < i)) →
      H p = H i ∧ HI E call l T H V (fun j => S j ∨ j = i) (H (i + 1)) := fun p hp hps hk2 hall => by
    refine ⟨hs.heap_eq hp (by omega) fun e he hke => ?_, .plain (i + 1) (by omega) rfl fun e he hke => ?_⟩
    · by_cases hei : e = i
      · subst hei
        exact ⟨fun h => by omega, fun h => hni ((hps e he hke).2 h.2)⟩
      · have h1 := hps e he hke
        have h2 := hall e he hke hei
        exact ⟨fun h => absurd (h1.1 (h2.2 h.2)) (by omega), fun h => absurd (h2.1 (h1.2 h.2)) (by omega)⟩
    · by_cases hei : e = i
      · subst hei; exact ⟨fun _ => by omega, fun _ => .inr rfl⟩
      · have h2 := hall e he hke hei
        exact ⟨fun h => by have := h2.1 (h.resolve_right hei); omega, fun h => .inl (h2.2 (by omega))⟩
  cases hw : wanted (T i) l[i].guard with
  | false =>
    refine .inr ⟨rfl, (hs.no i hi hw).1, ?_⟩
    by_cases hk2 : l[i].op.kind = 2
    · cases hh with
      | plain p hp e hps =>
        subst e
        by_cases hall : ∀ e (he : e < l.length), l[e].op.kind = 2 → e ≠ i → (S e ↔ e < i)
        · obtain ⟨h1, h2⟩ := plainEff p hp hps hk2 hall
          rw [h1, ← (hs.no i hi hw).2]; exact h2
        · exfalso
          apply hall
          intro e he hke hei
          rcases st.pair i e hi he (Ne.symm hei) with hc | hc
          · exact hord e he hei hc
          · exfalso
            have hgn : l[i].guard = none := by
              rcases kindsOk_22 hc.2 hk2 hke with hsw | hsw
              · rw [hsw] at hswc
                unfold chkSw at hswc
                simp only [nth_eq, List.getElem?_eq_getElem hi, List.getElem?_eq_getElem he] at hswc
                cases hst : storeAt? l[i] (T l.length) with
                | none => simp [hst] at hswc
                | some k => exact (storeAt_spec hst).1
              · rw [hsw] at hswc
                unfold chkSw at hswc
                simp only [nth_eq, List.getElem?_eq_getElem hi, List.getElem?_eq_getElem he] at hswc
                cases hst : storeAt? l[i] (T l.length) with
                | none => simp [hst] at hswc
                | some k => exact (storeAt_spec hst).1
            rw [hgn] at hw; cases hw
      | swapped x hx hkx hnx hall hwx hgo =>
        have : i = x := by
          by_cases e : i = x
          · exact e
          · exact absurd (hall i hi (by rw [hk2]; decide) e) hni
        subst this
        rw [hwx] at hw; cases hw
    · exact hh.more hi hk2
  | true =>
    refine .inl ⟨rfl, ?_⟩
    have hyes := hs.yes i hi hw
    by_cases hk2 : l[i].op.kind = 2
    · cases hh with
      | swapped x hx hkx hnx hall hwx hgo =>
        have : i = x := by
          by_cases e : i = x
          · exact e
          · exact absurd (hall i hi (by rw [hk2]; decide) e) hni
        subst this
        refine ⟨H l.length, by rw [hop]; exact hgo, .plain l.length (Nat.le_refl _) rfl fun e he hke => ⟨fun _ => he, fun _ => ?_⟩⟩
        by_cases hei : e = i
        · exact .inr hei
        · exact .inl (hall e he (by rw [hke]; decide) hei)
      | plain p hp e hps =>
        subst e
        by_cases hall : ∀ e (he : e < l.length), l[e].op.kind = 2 → e ≠ i → (S e ↔ e < i)
        · obtain ⟨h1, h2⟩ := plainEff p hp hps hk2 hall
          exact ⟨H (i + 1), by rw [hop, h1]; exact hyes, h2⟩
        · -- a store ahead of the one that stands before it
          have : ∃ x, x < l.length ∧ sw = some (x, i) ∧ ¬ S x := by
            apply Classical.byContradiction
            intro hno
            apply hall
            intro e he hke hei
            rcases st.pair i e hi he (Ne.symm hei) with hc | hc
            · exact hord e he hei hc
            · rcases kindsOk_22 hc.2 hk2 hke with hsw | hsw
              · have hlt := (st.sw _ hsw).1
                simp only at hlt
                have hnS : ¬ S e := fun h => hni ((hps i hi hk2).2 (by have := (hps e he hke).1 h; omega))
                exact ⟨fun h => absurd h hnS, fun h => by omega⟩
              · have hlt := (st.sw _ hsw).1
                simp only at hlt
                refine ⟨fun _ => hlt, fun _ => ?_⟩
                apply Classical.byContradiction
                intro hnS
                exact hno ⟨e, he, hsw, hnS⟩
          obtain ⟨x, hx, hsw, hnx⟩ := this
          obtain ⟨hxi, _, hfx, hfi, hoth⟩ := st.sw _ hsw
          simp only at hxi hfx hfi hoth
          have hSk : ∀ k (hk : k < l.length), l[k].op.kind ≠ 0 → k ≠ x → k ≠ i → S k := fun k hk h0 h1 h2 => bits hlen hC hi hr k (hoth k hk h0 h1 h2).2.2
          have hHp : H p = H x := hs.heap_eq hp (by omega) fun e he hke => by
            have h0 : l[e].op.kind ≠ 0 := by rw [hke]; decide
            have h1 := hps e he hke
            refine ⟨fun h => ?_, fun h => ?_⟩
            · have := h1.1 (hSk e he h0 (by omega) (by omega)); omega
            · have hS := h1.2 h.2
              have hne : e ≠ x := fun e' => by subst e'; exact hnx hS
              have hne' : e ≠ i := fun e' => by subst e'; exact hni hS
              have := (hoth e he h0 hne hne').1; omega
          have hHi : H i = H (x + 1) := hs.heap_eq (by omega) (by omega) fun e he hke => by
            have h0 : l[e].op.kind ≠ 0 := by rw [hke]; decide
            refine ⟨fun h => by omega, fun h => ?_⟩
            have := (hoth e he h0 (by omega) (by omega)).1; omega
          have hHn : H l.length = H (i + 1) := hs.heap_eq (Nat.le_refl _) (by omega) fun e he hke => by
            have h0 : l[e].op.kind ≠ 0 := by rw [hke]; decide
            refine ⟨fun h => by omega, fun h => ?_⟩
            have := (hoth e he h0 (by omega) (by omega)).1; omega
          rw [hsw] at hswc
          unfold chkSw at hswc
          simp only [nth_eq, List.getElem?_eq_getElem hi, List.getElem?_eq_getElem hx] at hswc
          cases hsx : storeAt? l[x] (T l.length) with
          | none => simp [hsx] at hswc
          | some k =>
            cases hsi : storeAt? l[i] (T l.length) with
            | none => simp [hsx, hsi] at hswc
            | some k' =>
              simp only [hsx, hsi, Bool.not_eq_true'] at hswc
              have hkk : k ≠ k' := fun e => by subst e; rw [Nat.beq_refl] at hswc; cases hswc
              obtain ⟨hgx, n1, a1, x1, o1, hox, ha1⟩ := storeAt_spec hsx
              obtain ⟨hgi, n2, a2, x2, o2, hoi, ha2⟩ := storeAt_spec hsi
              have hax := hs.final_agree hx (hfx hx)
              have hai := hs.final_agree hi (hfi hi)
              have hwx : wanted (T x) l[x].guard = true := by rw [hgx]; rfl
              have hyx := hs.yes x hx hwx
              unfold GOper.looks at hax hai
              rw [hox] at hax hyx
              rw [hoi] at hai hyes
              obtain ⟨hvx, hstx⟩ := gOp_store hyx
              obtain ⟨hvi, hsti⟩ := gOp_store hyes
              have e1 : a1.get (T x) = .ptr k o1 := by rw [← arg_agree hax.left.left]; exact ha1
              have e2 : a2.get (T i) = .ptr k' o2 := by rw [← arg_agree hai.left.left]; exact ha2
              rw [e1] at hstx
              rw [e2, hHi] at hsti
              obtain ⟨h1', hs1, hs2⟩ := swap_stores hkk hstx hsti
              refine ⟨h1', ?_, .swapped x hx (by rw [hox]; rfl) (fun h => hnx (h.resolve_right (by omega))) (fun k hk h0 h1 => ?_) hwx ?_⟩
              · rw [hop, hHp, hoi, hvi]
                exact gOp_store' (by rw [e2]; exact hs1)
              · by_cases hki : k = i
                · exact .inr hki
                · exact .inl (hSk k hk h0 h1 hki)
              · rw [hox, hvx, hHn]
                exact gOp_store' (by rw [e1]; exact hs2)
    · by_cases hk1 : l[i].op.kind = 1
      · cases hh with
        | swapped x hx hkx hnx hall hwx hgo =>
          exact absurd (hall i hi (by rw [hk1]; decide) (fun e => by subst e; rw [hk1] at hkx; cases hkx)) hni
        | plain p hp e hps =>
          have hread := read_any hs st hhl hck hi hk1 hw p hp fun e' he hke hbt => by
            have hei : e' ≠ i := fun e'' => by subst e''; rw [hk1] at hke; cases hke
            rcases st.pair i e' hi he (Ne.symm hei) with hc | hc
            · exfalso
              have h1 := hord e' he hei hc
              have h2 := hps e' he hke
              rcases hbt with hb | hb
              · have := h2.1 (h1.2 hb.2); omega
              · have := h1.1 (h2.2 hb.2); omega
            · exact kindsOk_12 hc.2 hk1 hke
          refine ⟨h, ?_, (HI.plain p hp e hps : HI E call l T H V S h).more hi hk2⟩
          subst e
          rw [hop]
          cases ho : l[i].op with
          | p o => rw [ho] at hk1; cases hk1
          | e o => rw [ho] at hk2; exact absurd rfl hk2
          | r o =>
            rw [ho] at hread
            simp only [readAgain] at hread
            simp only [gOp, hread, withH]
      · refine ⟨h, ?_, hh.more hi hk2⟩
        rw [hop]
        cases ho : l[i].op with
        | r o => rw [ho] at hk1; exact absurd rfl hk1
        | e o => rw [ho] at hk2; exact absurd rfl hk2
        | p o =>
          rw [ho] at hyes
          simp only [gOp] at hyes ⊢
          cases hv : gPure o (GArg.get (T i)) with
          | none => simp [hv, withH] at hyes
          | some v =>
            simp only [hv, withH, Option.some.injEq, Prod.mk.injEq] at hyes ⊢
            exact ⟨hyes.1, trivial⟩
end
end Go.Gh

/-
  THE GHOST MACHINE: a region that draws its order is sound.
  No claim is proved here.
-/
namespace Go.Gh

section
variable {P : Program} {C : GCfg}

theorem gOpers_get (ops : Array Oper) : ∀ (rest : List Oper) (i : Nat) (l : List GOper), gOpers P C ops i rest = some l → l.length = rest.length ∧
    ∀ j (h1 : j < rest.length) (h2 : j < l.length), ∃ g gd, gOpOf P C (i + j) rest[j] = some g ∧ gGuard ops rest[j].guard = some gd ∧ l[j] = { dst := rest[j].dst.map pth, op := g, guard := gd } := by
  intro rest
  induction rest with
  | nil => intro i l h; simp only [gOpers, Option.some.injEq] at h; subst h; exact ⟨rfl, fun j h1 => absurd h1 (Nat.not_lt_zero _)⟩
  | cons o rest ih =>
    intro i l h
    simp only [gOpers] at h
    split at h
    · rename_i g gd r hg hgd hr
      simp only [Option.some.injEq] at h; subst h
      obtain ⟨hl, hh⟩ := ih (i + 1) r hr
      refine ⟨by simp [hl], fun j h1 h2 => ?_⟩
      cases j with
      | zero => exact ⟨g, gd, hg, hgd, rfl⟩
      | succ j =>
        obtain ⟨g', gd', e1, e2, e3⟩ := hh j (by simpa using h1) (by simpa using h2)
        exact ⟨g', gd', by rw [show i + (j + 1) = i + 1 + j by omega]; exact e1, e2, e3⟩
    · cases h

theorem mem_edges {o : Oper} {k : Nat} : k ∈ edgesOf o ↔ ∃ e ∈ o.after, Region.binds .any e = true ∧ e.on = k := by
  unfold edgesOf
  simp only [List.mem_map, List.mem_filter, Array.mem_toList_iff]
  constructor
  · rintro ⟨e, ⟨h1, h2⟩, h3⟩; exact ⟨e, h1, h2, h3⟩
  · rintro ⟨e, h1, h2, h3⟩; exact ⟨e, ⟨h1, h2⟩, h3⟩

theorem draws (E : GEnv) (call : CallF) (hT : Told P C E call) : Draws P C E call := by
  intro base W0 N Γ hp id ops Q l chk sw ts gh a w s hl hst hd hC hA hW hdraw hQ
  obtain ⟨hlen, hget⟩ := gOpers_get ops ops.toList 0 l hl
  have hn : l.length = ops.size := by rw [hlen]; simp
  have st := stat_of hst
  have hes : (ops.toList.map edgesOf).length = l.length := by rw [hn]; simp
  have hesg : ∀ (i : Nat) (e : List Nat), (ops.toList.map edgesOf)[i]? = some e ↔ ∃ o, ops[i]? = some o ∧ e = edgesOf o := fun i e => by
    rw [List.getElem?_map, Array.getElem?_toList]
    cases ops[i]? with
    | none => simp
    | some o => simp [eq_comm]
  unfold gDrawC at hdraw
  simp only at hdraw
  cases hr : gOpsT E call l ts gh with
  | none => rw [hr] at hdraw; cases hdraw
  | some r =>
    obtain ⟨tsF, ghF, hsl⟩ := r
    rw [hr] at hdraw
    simp only [chkC] at hdraw
    cases hck : (chkAll l tsF hsl chk && chkSw l tsF sw) with
    | false => rw [hck] at hdraw; cases hdraw
    | true =>
      rw [hck] at hdraw
      simp only [cond_true, Option.some.injEq, Prod.mk.injEq, true_and] at hdraw
      subst hdraw
      simp only [Bool.and_eq_true] at hck
      obtain ⟨T, H, V, eT0, eH0, eT, eH, hhl, hs⟩ := seq_of l ts gh tsF ghF hsl hr
      rw [← eT] at hck
      refine wp_region_any hT.mixed ?_
      have key : ∀ (fuel : Nat) (listed : Array Bool) (Γ' : Gam) (a' : Act) (t : GFr) (h : GHeap) (w' : World), listed.size = ops.size → listed.toList.count false = fuel → Γ.le Γ' → Closed (ops.toList.map edgesOf) (fun j => listed.getD j false = true) →
          Cur l T V (fun j => listed.getD j false = true) t → HI E call l T H V (fun j => listed.getD j false = true) h → AR N Γ' a' t → WRel base W0 Γ' h w' → wpAny P .any ops Q fuel listed a' w' := by
        -- all are done
        have fin : ∀ (listed : Array Bool) (Γ' : Gam) (a' : Act) (t : GFr) (h : GHeap) (w' : World), Γ.le Γ' → (∀ i, i < l.length → listed.getD i false = true) → Cur l T V (fun j => listed.getD j false = true) t →
            HI E call l T H V (fun j => listed.getD j false = true) h → AR N Γ' a' t → WRel base W0 Γ' h w' → Q .normal a' w' := by
          intro listed Γ' a' t h w' hle hall hcur hhi hA' hW'
          have hh : h = ghF := by
            cases hhi with
            | plain p hp e hps =>
              rw [e, ← eH]
              exact hs.heap_eq hp (Nat.le_refl _) fun e he hk => ⟨fun h => by have := (hps e he hk).1 (hall e he); omega, fun h => by omega⟩
            | swapped x hx hkx hnx _ _ _ => exact absurd (hall x hx) hnx
          subst hh
          refine hQ a' w' ⟨Γ', hle, ⟨⟨fun i => ?_, hA'.rel.def_⟩, hA'.size⟩, hW'⟩
          have := hA'.rel.tmp i
          rw [hcur.all hs st.dist hall, eT] at this
          exact this
        -- who waits for nobody is ready
        have least : ∀ (listed : Array Bool), listed.size = ops.size → Region.ready .any ops listed = [] → ∀ i, i < l.length → listed.getD i false = true := by
          intro listed hsz hrd i
          induction i using Nat.strongRecOn with
          | _ i ih =>
            intro hi
            cases hb : listed.getD i false with
            | true => rfl
            | false =>
              exfalso
              have hi' : i < ops.size := by omega
              have : i ∈ Region.ready .any ops listed := by
                rw [mem_ready]
                refine ⟨?_, ops[i], Array.getElem?_eq_getElem hi', fun e he hbd => ?_⟩
                · have hil : i < listed.size := by omega
                  simp only [Array.getD_eq_getD_getElem?, Array.getElem?_eq_getElem hil, Option.getD_some] at hb ⊢
                  exact hb
                · have hk : e.on < i := st.edge i (edgesOf ops[i]) ((hesg i _).2 ⟨_, Array.getElem?_eq_getElem hi', rfl⟩) e.on (mem_edges.2 ⟨e, he, hbd, rfl⟩)
                  exact ih e.on hk (by omega)
              rw [hrd] at this; cases this
        intro fuel
        induction fuel with
        | zero =>
          intro listed Γ' a' t h w' hsz hcnt hle hcl hcur hhi hA' hW'
          have hall : ∀ i, i < l.length → listed.getD i false = true := fun i hi => by
            have hi' : i < listed.size := by omega
            have hnm : false ∉ listed.toList := List.count_eq_zero.mp hcnt
            have hm : listed[i] ∈ listed.toList := by simp
            simp only [Array.getD_eq_getD_getElem?, Array.getElem?_eq_getElem hi', Option.getD_some]
            cases hb : listed[i] with
            | true => rfl
            | false => rw [hb] at hm; exact absurd hm hnm
          refine ⟨?_, fin listed Γ' a' t h w' hle hall hcur hhi hA' hW'⟩
          apply List.eq_nil_iff_forall_not_mem.mpr
          intro i hi
          obtain ⟨h0, o, ho, _⟩ := mem_ready.1 hi
          have hi' : i < ops.size := (Array.getElem?_eq_some_iff.1 ho).1
          have h1 := hall i (by omega)
          have hil : i < listed.size := by omega
          simp only [Array.getD_eq_getD_getElem?, Array.getElem?_eq_getElem hil, Option.getD_some] at h0 h1
          rw [h0] at h1; cases h1
        | succ fuel ih =>
          intro listed Γ' a' t h w' hsz hcnt hle hcl hcur hhi hA' hW'
          refine ⟨fun hrd => fin listed Γ' a' t h w' hle (least listed hsz hrd) hcur hhi hA' hW', fun i hi => ?_⟩
          obtain ⟨h0, o, ho, hed⟩ := mem_ready.1 hi
          have hi' : i < ops.size := (Array.getElem?_eq_some_iff.1 ho).1
          have hil : i < l.length := by omega
          have hli : i < listed.size := by omega
          have hot : i < ops.toList.length := by simpa using hi'
          have h0' : listed[i] = false := by simpa [Array.getD_eq_getD_getElem?, Array.getElem?_eq_getElem hli] using h0
          have hoo : ops.toList[i] = o := by
            rw [Array.getElem?_eq_getElem hi'] at ho
            simpa using ho
          obtain ⟨g, gd, hg, hgd, hli2⟩ := hget i hot hil
          rw [hoo] at hg hgd hli2
          rw [Nat.zero_add] at hg
          have hready : ∀ (e : List Nat), (ops.toList.map edgesOf)[i]? = some e → ∀ k ∈ e, listed.getD k false = true := fun e he k hk => by
            obtain ⟨o', ho', rfl⟩ := (hesg i e).1 he
            rw [ho] at ho'; cases ho'
            obtain ⟨ed, h1, h2, rfl⟩ := mem_edges.1 hk
            exact hed ed h1 h2
          have hni : ¬ (listed.getD i false = true) := by
            simp [Array.getD_eq_getD_getElem?, Array.getElem?_eq_getElem hli, h0']
          have hS : (fun j => (listed.setIfInBounds i true).getD j false = true) = fun j => listed.getD j false = true ∨ j = i := by
            funext j
            apply propext
            by_cases e : j = i
            · subst e; simp [hli]
            · simp only [e, or_false]
              rw [getD_set_ne false (Ne.symm e)]
          have hcount : (listed.setIfInBounds i true).toList.count false = fuel := by
            rw [Array.toList_setIfInBounds, List.count_set (by simpa using hli)]
            have : listed.toList[i]'(by simpa using hli) = false := by simpa using h0'
            rw [this, hcnt]
            simp
          have hcl' : Closed (ops.toList.map edgesOf) (fun j => (listed.setIfInBounds i true).getD j false = true) := by
            rw [hS]
            intro j e he hj k hk
            rcases hj with hj | rfl
            · exact .inl (hcl j e he hj k hk)
            · exact .inl (hready e he k hk)
          have hdi : ∀ d, o.dst = some d → d < N := hd o (by rw [← hoo]; exact List.getElem_mem hot)
          have hCΓ : CfgOK P { C with heap := hp } Γ' := hC.mono hle
          have hT' : Told P { C with heap := hp } E call := hT.heap hp
          have hcur' := hcur.step st.dist hil
          unfold wpOp
          simp only [ho]
          rw [guard_rel hA'.rel hgd]
          have hgdl : l[i].guard = gd := by rw [hli2]
          have hopl : l[i].op = g := by rw [hli2]
          have hdl : l[i].dst = o.dst.map pth := by rw [hli2]
          rcases turn hs st hes hhl hck.1 hck.2 hcl hil hni hready hcur hhi with ⟨hw1, h', hgo, hhi'⟩ | ⟨hw1, hv, hhi'⟩
          · rw [hgdl] at hw1
            rw [hw1]
            simp only [if_true]
            rw [hopl] at hgo
            refine .inl ((op_sound hCΓ hA'.rel hW' hT'.meth hT'.call i o g hg _ hgo).wp _ _ fun v w'' hans => ?_)
            obtain ⟨Γ'', hle', hvr, hW''⟩ := hans
            refine ih _ Γ'' _ _ h' w'' (by simpa using hsz) hcount (hle.trans hle') hcl' ?_ ?_ ((hA'.mono hle').put o.dst hdi hvr) hW''
            · rw [hS, ← hdl]; exact hcur'
            · rw [hS]; exact hhi'
          · rw [hgdl] at hw1
            rw [hw1]
            simp only [Bool.false_eq_true, if_false]
            refine ih _ Γ' _ _ h w' (by simpa using hsz) hcount hle hcl' ?_ ?_ (hA'.put o.dst hdi (.undef Γ')) hW'
            · rw [hS, ← hdl, ← hv]; exact hcur'
            · rw [hS]; exact hhi'
      refine key ops.size (Array.replicate ops.size false) Γ a ts gh { w with drawn := w.drawn + 1 } (by simp) (by simp) (Gam.le_refl _) ?_ ?_ ?_ hA (hW.same rfl rfl rfl rfl)
      · intro i e he hS; exfalso
        simp only [Array.getD_eq_getD_getElem?, Array.getElem?_replicate] at hS
        split at hS <;> simp at hS
      · rw [← eT0]
        refine Cur.start _ fun i hS => ?_
        simp only [Array.getD_eq_getD_getElem?, Array.getElem?_replicate] at hS
        split at hS <;> simp at hS
      · refine .plain 0 (Nat.zero_le _) eH0.symm fun e he hk => ⟨fun hS => ?_, fun h => by omega⟩
        simp only [Array.getD_eq_getD_getElem?, Array.getElem?_replicate] at hS
        split at hS <;> simp at hS
end
end Go.Gh

/-
  THE GHOST MACHINE: what the ghost reckons, the program does, in every world and under every tape.
  No claim is proved here.
-/
namespace Go.Gh

/-- All that is told of a program. -/
structure Fits (P : Program) (C : GCfg) (E : GEnv) : Prop where
  fn : EnvFn P C E
  ext : ExtOK P C E
  meth : MethOK P C E
  mixed : P.follows .mixedOrders = true

theorem sound {P : Program} {C : GCfg} {E : GEnv} (h : Fits P C E) (n : Nat) : CallOK P C (gCall E n) :=
  gCall_sound h.fn h.ext h.meth h.mixed (fun _ call hT => draws E call hT) n

/-- No memory at all. -/
def Gam.none : Gam := ⟨fun _ => Option.none, fun _ => Option.none, fun _ _ => Option.none, fun _ => Option.none⟩
theorem wrel_empty (w : World) : WRel w.heap.size w Gam.none .empty w := by
  refine ⟨⟨rfl, rfl, rfl, Nat.le_refl _, fun _ _ => rfl⟩, Nat.le_refl _, fun r o v e => by simp [Gam.none] at e, fun _ _ => rfl, fun _ _ => rfl, fun k b e => ?_, fun k k' b b' r _ e => ?_⟩
  · have hn : ∀ p, Tr.get p (Tr.nil : Tr GBlock) = Option.none := fun p => by
      induction p with
      | e => rfl
      | l p ih => exact ih
      | r p ih => exact ih
    simp [GHeap.get, GHeap.empty, hn] at e
  · have hn : ∀ p, Tr.get p (Tr.nil : Tr GBlock) = Option.none := fun p => by
      induction p with
      | e => rfl
      | l p ih => exact ih
      | r p ih => exact ih
    simp [GHeap.get, GHeap.empty, hn] at e
end Go.Gh

/-
  THE GHOST MACHINE, FOURTH TEXT: functions of which the ghost knows the answer by a rule of its own; a table of ghosts.
  No claim is proved here.
-/
namespace Go.Gh
noncomputable section
inductive FTree where
  | leaf
  | node (k : Nat) (f : GFunc) (l r : FTree)
def FTree.find : FTree → Nat → Option GFunc
  | .leaf, _ => none
  | .node k f l r, n => bif Nat.beq n k then some f else bif Nat.blt n k then l.find n else r.find n
def prefixOf (x : List Nat) : List Nat → Bool :=
  @List.rec Nat (fun _ => List Nat → Bool) (fun _ => true)
    (fun a _ ih y => @List.rec Nat (fun _ => Bool) false (fun b y _ => @Bool.rec (fun _ => Bool) false (ih y) (Nat.beq a b)) y) x
theorem prefixOf_nil (y : List Nat) : prefixOf [] y = true := rfl
theorem prefixOf_cons_nil (a : Nat) (x : List Nat) : prefixOf (a :: x) [] = false := rfl
theorem prefixOf_cons (a b : Nat) (x y : List Nat) : prefixOf (a :: x) (b :: y) = (Nat.beq a b && prefixOf x y) := by
  show @Bool.rec (fun _ => Bool) false (prefixOf x y) (Nat.beq a b) = _
  cases Nat.beq a b <;> rfl
def indexOf (t : List Nat) : List Nat → Nat → Int
  | [], i => bif t.isEmpty then .ofNat i else .negSucc 0
  | b :: s, i => bif prefixOf t (b :: s) then .ofNat i else indexOf t s (Nat.succ i)
def indexByte (b : Nat) : List Nat → Nat → Int
  | [], _ => .negSucc 0
  | c :: s, i => bif Nat.beq c b then .ofNat i else indexByte b s (Nat.succ i)
abbrev Ext := List GVal → GHeap → Option (GVal × GHeap)
def extIndex : Ext := fun args h => match args with | [.str s, .str t] => bif Nat.blt s.length 4294967281 then some (.int .i64 (indexOf t s 0), h) else none | _ => none
def extIndexByte : Ext := fun args h => match args with | [.str s, .int .u8 (.ofNat b)] => bif Nat.blt b 256 then some (.int .i64 (indexByte b s 0), h) else none | _ => none
/-- The names and numbers in n pairs of cells. -/
def knownOf (vs : List GVal) : Nat → Nat → Option (List (List Nat × Int))
  | 0, _ => some []
  | n + 1, o =>
    match nth vs o, nth vs (Nat.succ o), knownOf vs n (Nat.add o 2) with
    | some (.str s), some (.int .i64 m), some r => some ((s, m) :: r)
    | _, _, _ => none
/-- The last pair of that name. -/
def lastOf (name : List Nat) : List (List Nat × Int) → Option Int
  | [] => none
  | p :: r => match lastOf name r with | some v => some v | none => bif natsSame p.1 name then some p.2 else none
def foundV (r : Option Int) : GVal := match r with | some m => .tuple [.int .i64 m, .bool true] | none => .tuple [.int .i64 (.ofNat 0), .bool false]
def findIn2 (h : GHeap) (name : List Nat) (l : Option (List (List Nat × Int))) : Option (GVal × GHeap) := match l with | some l => some (foundV (lastOf name l), h) | none => none
def extFind : Ext := fun args h =>
  match args with
  | [.ptr k off, .str name] =>
    match h.get k with
    | some (.cells vals _ _) =>
      match nth vals (Nat.add off 2) with
      | some .nils => some (foundV none, h)
      | some (.hsl b o n 2) =>
        match h.get b with
        | some (.cells vs _ _) => bif Nat.ble n 1000000000000 then findIn2 h name (knownOf vs n o) else none
        | _ => none
      | _ => none
    | _ => none
  | _ => none
def isTrue : Option (GVal × GHeap) → Bool | some (.bool true, _) => true | _ => false
end
end Go.Gh

/-
  THE GHOST MACHINE: functions whose answer is known by a contract.
  No claim is proved here.
-/
namespace Go.Gh

theorem prefixOf_eq : ∀ (t l : List UInt8), prefixOf (t.map (·.toNat)) (l.map (·.toNat)) = t.isPrefixOf l := by
  intro t
  induction t with
  | nil => intro l; cases l <;> simp [prefixOf_nil]
  | cons a t ih =>
    intro l
    cases l with
    | nil => simp [prefixOf_cons_nil]
    | cons b l =>
      simp only [List.map_cons, prefixOf_cons, ih, List.isPrefixOf]
      congr 1
      rw [beq_bool]
      by_cases h : a = b
      · subst h; simp
      · have : ¬ a.toNat = b.toNat := fun e => h (UInt8.toNat_inj.mp e)
        simp [this, h]

theorem indexOf_eq (t : List UInt8) : ∀ (l : List UInt8) (i : Nat), indexOf (t.map (·.toNat)) (l.map (·.toNat)) i = if Lib.index l t = -1 then -1 else Lib.index l t + i := by
  intro l
  induction l with
  | nil =>
    intro i
    simp only [List.map_nil, indexOf, Lib.index]
    cases t with
    | nil => simp
    | cons a t => rfl
  | cons b l ih =>
    intro i
    have hp := prefixOf_eq t (b :: l)
    by_cases h : t.isPrefixOf (b :: l) = true
    · have e : Lib.index (b :: l) t = 0 := by rw [Lib.index, if_pos h]
      rw [e]
      simp only [List.map_cons] at hp
      simp only [List.map_cons, indexOf, hp, h, cond_true]
      simp
    · have e : Lib.index (b :: l) t = if Lib.index l t == -1 then -1 else Lib.index l t + 1 := by rw [Lib.index, if_neg h]
      have h' : t.isPrefixOf (b :: l) = false := Bool.eq_false_iff.mpr h
      rw [e]
      simp only [List.map_cons] at hp
      simp only [List.map_cons, indexOf, hp, h', cond_false]
      rw [ih]
      have hge := Lib.index_ge l t
      by_cases h1 : Lib.index l t = -1
      · simp [h1]
      · have h2 : ¬ (Lib.index l t + 1 = -1) := by omega
        simp only [h1, if_false, h2, beq_iff_eq]
        have : (Nat.succ i : Nat) = i + 1 := rfl
        omega

section
variable {P : Program} {C : GCfg}

theorem callFunc_enter {f : FuncId} {fn : Func} (hf : P.funcs[f]? = some fn) (hn : (fn.name == "runtime.NumGoroutine") = false) (hb : fn.body.isNone = false) (args : Array Value) (w : World) : (callFunc f args).run P w = .ok (.enter f args) w := by
  unfold callFunc
  have hp : (program).run P w = .ok P w := rfl
  simp only [Sem.run_bind, hp, Result.andThen_ok, hf, hn, hb, Bool.false_eq_true, if_false, Sem.run_pure]

/-- A rule for the function f. -/
def ExtFor (P : Program) (C : GCfg) (f : FuncId) (x : Ext) : Prop :=
  ∀ (args : Array Value) (gargs : List GVal) (base : Nat) (W0 : World) (Γ : Gam) (gh : GHeap) (w : World) (r : GVal × GHeap), CfgOK P C Γ → args.size = gargs.length → (∀ i (hi : i < gargs.length), VRel Γ (args.getD i undef) gargs[i]) → WRel base W0 Γ gh w →
    x gargs gh = some r → EOk P base W0 Γ w (callFunc f args) r

theorem args_two {Γ : Gam} {args : Array Value} {a b : GVal} (hs : args.size = [a, b].length) (hr : ∀ i (hi : i < [a, b].length), VRel Γ (args.getD i undef) [a, b][i]) : ∃ x y, args = #[x, y] ∧ VRel Γ x a ∧ VRel Γ y b := by
  obtain ⟨l⟩ := args
  match l, hs with
  | [x, y], _ => exact ⟨x, y, rfl, by simpa using hr 0 (by simp), by simpa using hr 1 (by simp)⟩

/-- The cell of a package variable that holds the unknown value i. -/
theorem glob_any {Γ : Gam} {base : Nat} {W0 : World} {gh : GHeap} {w : World} (hC : CfgOK P C Γ) (hW : WRel base W0 Γ gh w) {g i : Nat} (hg : C.glob g = some (.vptr (.any i) 0)) : ∃ x, w.cell? ⟨g, 0, none⟩ = some x ∧ C.unk i x := by
  have h := hC.1 g _ hg
  generalize hv : Value.pointer (some (⟨g, 0, none⟩ : Addr)) = v at h
  cases h with
  | vptr r o off el f hi h1 h =>
    simp only [Value.pointer.injEq, Option.some.injEq, Addr.mk.injEq] at hv
    obtain ⟨rfl, h0, _⟩ := hv
    have ho : o = 0 := by omega
    subst ho
    have hc := hi 0 (by simp [GVal.cells])
    have hr := h 0 (by simp [GVal.cells])
    simp only [GVal.cells, List.getElem_cons_zero] at hr
    generalize hf : f 0 = u at hr
    cases hr with
    | any _ _ hu _ _ _ => exact ⟨u, by rw [← hf]; exact hW.immc _ _ _ hc, hC.2.2 i _ hu⟩

theorem extIndex_ok {f g i : Nat} {fn : Func} (hf : P.funcs[f]? = some fn) (hn : (fn.name == "runtime.NumGoroutine") = false) (hb : fn.body.isNone = false) (hg : C.glob g = some (.vptr (.any i) 0)) (hu : ∀ x, C.unk i x → ∃ m, x = .int .i64 m)
    (hx : ∀ (s sub : ByteArray) (m : Int) (w : World), s.size < 4294967281 → w.cell? ⟨g, 0, none⟩ = some (.int .i64 m) → Calls P f #[.string s, .string sub] w fun e w' => e = .returned (.int .i64 (Lib.index s.data.toList sub.data.toList)) ∧ w' = w) : ExtFor P C f extIndex := by
  intro args gargs base W0 Γ gh w r hC hs hr hW hx'
  unfold extIndex at hx'
  split at hx'
  · rename_i s t
    obtain ⟨x, y, rfl, hx1, hy1⟩ := args_two hs hr
    cases hx1 with | str bs _ hbs =>
    cases hy1 with | str bt _ hbt =>
    cases hlt : Nat.blt s.length 4294967281 with
    | false => rw [hlt] at hx'; cases hx'
    | true =>
      rw [hlt] at hx'
      simp only [cond_true, Option.some.injEq] at hx'; subst hx'
      have hsz : bs.size < 4294967281 := by
        have h1 : s.length = bs.size := by rw [← hbs]; exact bts_length bs
        rw [← h1]; exact Nat.le_of_ble_eq_true hlt
      obtain ⟨v, hc, hv⟩ := glob_any hC hW hg
      obtain ⟨m, rfl⟩ := hu v hv
      refine ⟨_, w, callFunc_enter hf hn hb _ w, ?_⟩
      refine Calls.mono (hx bs bt m w hsz hc) fun e w' he => ?_
      obtain ⟨rfl, rfl⟩ := he
      refine ⟨_, rfl, Γ, Gam.le_refl _, ?_, hW⟩
      subst hbs; subst hbt
      have e1 := indexOf_eq bt.data.toList bs.data.toList 0
      rw [e1]
      have e2 : (if Lib.index bs.data.toList bt.data.toList = -1 then -1 else Lib.index bs.data.toList bt.data.toList + ((0 : Nat) : Int)) = Lib.index bs.data.toList bt.data.toList := by
        split
        · rename_i h; exact h.symm
        · simp
      rw [e2]
      exact .int _ _
  · cases hx'
end
end Go.Gh

