/- The A-machine, run so that a kernel runs it fast: what it comes to, the A-machine comes to. -/
import Derived.Test.YtbdpkblldffkcaaGreatDoorAd
set_option linter.unusedSectionVars false
set_option linter.unnecessarySimpa false
set_option linter.deprecated false
set_option linter.unusedVariables false
set_option linter.unusedSimpArgs false
namespace Go.AM
set_option linter.unusedVariables false
set_option linter.unusedSimpArgs false
noncomputable section

/-! ### Slots and blocks, by recursors alone -/
def getF (s : List AV) (n : Nat) : AV := List.rec (motive := fun _ => Nat → AV) (fun _ => undef) (fun v _ ih n => Nat.rec (motive := fun _ => AV) v (fun m _ => ih m) n) s n
theorem getF_eq : ∀ (s : List AV) (n : Nat), getF s n = s.getD n undef
  | [], n => rfl
  | v :: r, 0 => rfl
  | v :: r, n + 1 => by
    have := getF_eq r n
    simp only [List.getD_cons_succ]; exact this
def setK {β : Type} (v : AV) (s : List AV) (n : Nat) (K : List AV → β) : β :=
  List.rec (motive := fun _ => Nat → (List AV → β) → β) (fun _ K => K []) (fun x r ih n K => Nat.rec (motive := fun _ => β) (K (v :: r)) (fun m _ => ih m fun r' => K (x :: r')) n) s n K
theorem setK_eq {β : Type} (v : AV) : ∀ (s : List AV) (n : Nat) (K : List AV → β), setK v s n K = K (s.set n v)
  | [], n, K => rfl
  | x :: r, 0, K => rfl
  | x :: r, n + 1, K => setK_eq v r n fun r' => K (x :: r')
def putK {β : Type} (s : List AV) (d : Option Nat) (v : AV) (K : List AV → β) : β := match d with | none => K s | some n => setK v s n K
theorem putK_eq {β : Type} (s : List AV) (d : Option Nat) (v : AV) (K : List AV → β) : putK s d v K = K (putA s d v) := by cases d <;> simp [putK, putA, setK_eq]
def layL {α β : Type} (s : List α) (K : List α → β) : β := List.rec (motive := fun _ => (List α → β) → β) (fun K => K []) (fun x _ ih K => ih fun r' => K (x :: r')) s K
theorem layL_eq {α β : Type} : ∀ (s : List α) (K : List α → β), layL s K = K s
  | [], K => rfl
  | x :: r, K => layL_eq r fun r' => K (x :: r')
def layB {β : Type} (b : Blk) (K : Blk → β) : β :=
  match b with
  | .dead => K .dead
  | .cells cs => layL cs fun cs => K (.cells cs)
  | .arr sz tag fz cs => layL cs fun cs => K (.arr sz tag fz cs)
  | .map ks vs => layL ks fun ks => layL vs fun vs => K (.map ks vs)
theorem layB_eq {β : Type} (b : Blk) (K : Blk → β) : layB b K = K b := by cases b <;> simp [layB, layL_eq]
def layAt {β : Type} (H : Heap) (n : Nat) (K : Heap → β) : β :=
  List.rec (motive := fun _ => Nat → (Heap → β) → β) (fun _ K => K []) (fun x r ih n K => Nat.rec (motive := fun _ => β) (layB x fun x' => layL r fun r' => K (x' :: r')) (fun m _ => ih m fun r' => K (x :: r')) n) H n K
theorem layAt_eq {β : Type} : ∀ (H : Heap) (n : Nat) (K : Heap → β), layAt H n K = K H
  | [], n, K => rfl
  | x :: r, 0, K => by
    show layB x (fun x' => layL r fun r' => K (x' :: r')) = _
    rw [layB_eq, layL_eq]
  | x :: r, n + 1, K => layAt_eq r n fun r' => K (x :: r')
def layEnd {β : Type} (H : Heap) (K : Heap → β) : β :=
  List.rec (motive := fun _ => (Heap → β) → β) (fun K => K []) (fun x r ih K => List.rec (motive := fun _ => β) (layB x fun x' => K [x']) (fun _ _ _ => ih fun r' => K (x :: r')) r) H K
theorem layEnd_eq {β : Type} : ∀ (H : Heap) (K : Heap → β), layEnd H K = K H
  | [], K => rfl
  | [x], K => layB_eq x fun x' => K [x']
  | x :: y :: r, K => layEnd_eq (y :: r) fun r' => K (x :: r')

section
variable (E : Env) (s : List AV)
def evF (x : RX) : AV := match x with | .t n => getF s n | .c v => v | .glob g => (RX.glob g).ev E s
theorem evF_eq (x : RX) : evF E s x = x.ev E s := by cases x <;> first | rfl | exact getF_eq _ _
def mapF (l : List RX) : List AV := List.rec (motive := fun _ => List AV) [] (fun x _ ih => evF E s x :: ih) l
theorem mapF_eq : ∀ l : List RX, mapF E s l = l.map (RX.ev E s)
  | [] => rfl
  | x :: r => by
    show evF E s x :: mapF E s r = _
    rw [evF_eq, mapF_eq r]; rfl
def optF (x : Option RX) : Option AV := match x with | some x => some (evF E s x) | none => none
theorem optF_eq (x : Option RX) : optF E s x = x.map (RX.ev E s) := by cases x <;> simp [optF, evF_eq]
end

/-! ### Blocks by their places -/
def nthF {α : Type} (l : List α) (n : Nat) : Option α := List.rec (motive := fun _ => Nat → Option α) (fun _ => none) (fun v _ ih n => Nat.rec (motive := fun _ => Option α) (some v) (fun m _ => ih m) n) l n
theorem nthF_eq {α : Type} : ∀ (l : List α) (n : Nat), nthF l n = l[n]?
  | [], n => by simp [nthF]
  | v :: r, 0 => rfl
  | v :: r, n + 1 => by
    have := nthF_eq r n
    rw [List.getElem?_cons_succ]; exact this
def setF {α : Type} (l : List α) (n : Nat) (x : α) : List α := List.rec (motive := fun _ => Nat → List α) (fun _ => []) (fun v r ih n => Nat.rec (motive := fun _ => List α) (x :: r) (fun m _ => v :: ih m) n) l n
theorem setF_eq {α : Type} (x : α) : ∀ (l : List α) (n : Nat), setF l n x = l.set n x
  | [], n => rfl
  | v :: r, 0 => rfl
  | v :: r, n + 1 => congrArg (v :: ·) (setF_eq x r n)
def endF {α : Type} (l : List α) (x : α) : List α := List.rec (motive := fun _ => List α) [x] (fun v _ ih => v :: ih) l
theorem endF_eq {α : Type} (x : α) : ∀ l : List α, endF l x = l ++ [x]
  | [] => rfl
  | v :: r => congrArg (v :: ·) (endF_eq x r)
def lenF {α : Type} (l : List α) : Nat := List.rec (motive := fun _ => Nat → Nat) (fun n => n) (fun _ _ ih n => ih (Nat.add n 1)) l 0
theorem lenF_go {α : Type} : ∀ (l : List α) (n : Nat), List.rec (motive := fun _ => Nat → Nat) (fun n => n) (fun _ _ ih n => ih (Nat.add n 1)) l n = n + l.length
  | [], n => rfl
  | v :: r, n => by
    show List.rec (motive := fun _ => Nat → Nat) (fun n => n) (fun _ _ ih n => ih (Nat.add n 1)) r (Nat.add n 1) = _
    rw [lenF_go r]; simp only [List.length_cons, Nat.add_eq]; omega
theorem lenF_eq {α : Type} (l : List α) : lenF l = l.length := by rw [lenF, lenF_go]; omega
/-- A number, reckoned. -/
def numK {β : Type} (n : Nat) (K : Nat → β) : β := Nat.rec (motive := fun _ => β) (K 0) (fun m _ => K (Nat.succ m)) n
theorem numK_eq {β : Type} (n : Nat) (K : Nat → β) : numK n K = K n := by cases n <;> rfl
def loadF (sh : Option Nat) (a : AV) (H : Heap) : Option AV :=
  match a with
  | .dptr cs => mkv sh cs
  | .ptr b off => match nthF H b with
    | some (.cells cs) => mkv sh (cs.drop off)
    | some (.arr _ _ _ cs) => mkv sh (cs.drop off)
    | _ => none
  | _ => none
theorem loadF_eq (sh : Option Nat) (a : AV) (H : Heap) : loadF sh a H = loadA sh a H := by
  cases a <;> try rfl
  rename_i b off
  simp only [loadF, loadA, nthF_eq]
  cases H[b]? with
  | none => rfl
  | some x => cases x <;> rfl
def storeF (n : Nat) (a v : AV) (H : Heap) : Option Heap :=
  if v.cells.length = n ∧ v.cells.all AV.isCell then
    match a with
    | .ptr b off => match nthF H b with
      | some (.cells cs) => if off + n ≤ cs.length then some (setF H b (.cells (wr cs off v.cells))) else none
      | some (.arr sz tag fz cs) => if fz ≤ off ∧ off + n ≤ cs.length then some (setF H b (.arr sz tag fz (wr cs off v.cells))) else none
      | _ => none
    | _ => none
  else none
theorem storeF_eq (n : Nat) (a v : AV) (H : Heap) : storeF n a v H = storeA n a v H := by
  unfold storeF storeA
  split
  · cases a <;> try rfl
    rename_i b off
    simp only [nthF_eq, setF_eq]
    cases H[b]? with
    | none => rfl
    | some x => cases x <;> rfl
  · rfl
def elemsF (sz : Nat) (H : Heap) (v : AV) : Option (List AV × Nat) :=
  match v with
  | .sl b off len sh =>
    if szOf sh = sz then
      match nthF H b with
      | some (.arr _ _ _ cs) => if off + len * sz ≤ cs.length then some ((cs.drop off).take (len * sz), len) else none
      | _ => none
    else none
  | v => elemsOf sz H v
theorem elemsF_eq (sz : Nat) (H : Heap) (v : AV) : elemsF sz H v = elemsOf sz H v := by
  cases v <;> try rfl
  simp only [elemsF, elemsOf, nthF_eq]; rfl
def appendF (sh : Option Nat) (tag bytes : Nat) (x : AV) (ys : List AV) (ny : Nat) (H : Heap) : Option (AV × Heap) :=
  match x with
  | .nils =>
    if ny = 0 then some (.nils, H)
    else if ny * bytes ≤ 140737488355328 ∧ ny < 9223372036854775808 then numK (lenF H) fun n => some (.sl n 0 ny sh, endF H (.arr (szOf sh) tag 0 ys)) else none
  | .sl b off len sh' =>
    if sh' = sh then
      if ny = 0 then some (x, H)
      else match nthF H b with
      | some (.arr sz tag' fz cs) =>
        if sz = szOf sh ∧ tag' = tag ∧ fz ≤ off + len * sz ∧ off + len * sz ≤ cs.length ∧ (len + ny) * bytes ≤ 140737488355328 ∧ len + ny < 9223372036854775808 then
          numK (lenF H) fun n => some (.sl n 0 (len + ny) sh, endF (setF H b .dead) (.arr sz tag (fz - off) ((cs.drop off).take (len * sz) ++ ys)))
        else none
      | _ => none
    else none
  | _ => none
theorem appendF_eq (sh : Option Nat) (tag bytes : Nat) (x : AV) (ys : List AV) (ny : Nat) (H : Heap) : appendF sh tag bytes x ys ny H = appendA sh tag bytes x ys ny H := by
  cases x <;> try rfl
  · simp only [appendF, appendA, numK_eq, lenF_eq, endF_eq]
  · simp only [appendF, appendA, numK_eq, lenF_eq, endF_eq, nthF_eq, setF_eq]
    rfl

/-! ### One operation, each by itself -/
abbrev Cl' := Nat → List AV → Heap → Option (AV × Heap)
abbrev FOp := Env → Cl' → List AV → Heap → Option (AV × Heap)
def pureF (v : Option AV) (H : Heap) : Option (AV × Heap) := match v with | some v => some (v, H) | none => none
def heapF (H : Option Heap) : Option (AV × Heap) := match H with | some H => some (undef, H) | none => none
theorem pureF_eq (v : Option AV) (H : Heap) : pureF v H = v.map fun v => (v, H) := by cases v <;> rfl
theorem heapF_eq (H : Option Heap) : heapF H = H.map fun H => (undef, H) := by cases H <;> rfl
abbrev F2 := AV → AV → Option AV
def bAdd : F2
  | .int k a, .int k' b => if k ≠ k' then none else some (.int k (k.wrap (a + b)))
  | .str a, .str b => if a.length + b.length < 9223372036854775808 then some (.str (a ++ b)) else none
  | _, _ => none
def bSub : F2 | .int k a, .int k' b => if k ≠ k' then none else some (.int k (k.wrap (a - b))) | _, _ => none
def bEql : F2 | .int k a, .int k' b => if k ≠ k' then none else some (.bool (a == b)) | .str a, .str b => some (.bool (a == b)) | _, _ => none
def bNeq : F2 | .int k a, .int k' b => if k ≠ k' then none else some (.bool (a != b)) | .str a, .str b => some (.bool (a != b)) | _, _ => none
def bLss : F2 | .int k a, .int k' b => if k ≠ k' then none else some (.bool (decide (a < b))) | .str a, .str b => some (.bool (Op.bytesLess a b)) | _, _ => none
def bLeq : F2 | .int k a, .int k' b => if k ≠ k' then none else some (.bool (decide (a ≤ b))) | .str a, .str b => some (.bool (Op.bytesLess a b || a == b)) | _, _ => none
def bGtr : F2 | .int k a, .int k' b => if k ≠ k' then none else some (.bool (decide (b < a))) | .str a, .str b => some (.bool (!(Op.bytesLess a b || a == b))) | _, _ => none
def bGeq : F2 | .int k a, .int k' b => if k ≠ k' then none else some (.bool (decide (b ≤ a))) | .str a, .str b => some (.bool (!Op.bytesLess a b)) | _, _ => none
def binF (op : BinOp) : F2 :=
  match op with
  | .add => bAdd | .sub => bSub | .mul => binop .mul | .eql => bEql | .neq => bNeq | .lss => bLss | .leq => bLeq | .gtr => bGtr | .geq => bGeq
  | .quo => binop .quo | .rem => binop .rem | .and => binop .and | .or => binop .or | .xor => binop .xor | .andNot => binop .andNot | .shl => binop .shl | .shr => binop .shr
theorem binF_eq (op : BinOp) (x y : AV) : binF op x y = binop op x y := by
  cases op <;> cases x <;> cases y <;> rfl
def fMov (x : RX) : FOp := fun E _ s H => some (evF E s x, H)
def pick' (a b : AV) (H : Heap) : AV → Option (AV × Heap) | .bool t => some (if t then a else b, H) | _ => none
def fPick (c a b : RX) : FOp := fun E _ s H => pick' (evF E s a) (evF E s b) H (evF E s c)
def box' (v : AV) (H : Heap) : Option (AV × Heap) := if v.cells.all AV.isCell then numK (lenF H) fun n => some (.ptr n 0, endF H (.cells v.cells)) else none
def fBox (v : RX) : FOp := fun E _ s H => box' (evF E s v) H
def fLoad (sh : Option Nat) (a : RX) : FOp := fun E _ s H => pureF (loadF sh (evF E s a) H) H
def fStore (n : Nat) (a v : RX) : FOp := fun E _ s H => heapF (storeF n (evF E s a) (evF E s v) H)
def nil' (H : Heap) : AV → Option (AV × Heap) | .ptr b o => some (.ptr b o, H) | .dptr cs => some (.dptr cs, H) | .fn g cp => some (.fn g cp, H) | _ => none
def fNil (x : RX) : FOp := fun E _ s H => nil' H (evF E s x)
def fBin (op : BinOp) (x y : RX) : FOp := fun E _ s H => pureF (binF op (evF E s x) (evF E s y)) H
def fSlice (sz : Nat) (x : RX) (lo hi mx : Option RX) : FOp := fun E _ s H => pureF (sliceA sz (evF E s x) (optF E s lo) (optF E s hi) (optF E s mx)) H
def fFaddr (off : Nat) (x : RX) : FOp := fun E _ s H => pureF (faddrA off (evF E s x)) H
def field' (off : Nat) (sh : Option Nat) (H : Heap) : AV → Option (AV × Heap) | .agg cs => pureF (mkv sh (cs.drop off)) H | _ => none
def fField (off : Nat) (sh : Option Nat) (x : RX) : FOp := fun E _ s H => field' off sh H (evF E s x)
def fIaddr (sh : Option Nat) (x i : RX) : FOp := fun E _ s H => pureF (iaddrA sh (evF E s x) (evF E s i)) H
def fIndex (n : Nat) (sh : Option Nat) (x i : RX) : FOp := fun E _ s H => pureF (indexA n sh (evF E s x) (evF E s i)) H
def ext' (i : Nat) (H : Heap) : AV → Option (AV × Heap) | .tup vs => pureF vs[i]? H | _ => none
def fExt (x : RX) (i : Nat) : FOp := fun E _ s H => ext' i H (evF E s x)
def call' (cl : Cl') (args : List AV) (H : Heap) : AV → Option (AV × Heap) | .fn g cp => cl g (args ++ cp) H | _ => none
def fCall (f : RX) (args : List RX) : FOp := fun E cl s H => call' cl (mapF E s args) H (evF E s f)
def fFcall (g : Nat) (args : List RX) : FOp := fun E cl s H => cl g (mapF E s args) H
def fLen (lk : LK) (x : RX) : FOp := fun E _ s H => pureF (lenA H lk (evF E s x)) H
def toInt' (k : IntKind) (H : Heap) : AV → Option (AV × Heap) | .int _ n => some (.int k (k.wrap n), H) | _ => none
def fToInt (k : IntKind) (x : RX) : FOp := fun E _ s H => toInt' k H (evF E s x)
def fUn (op : UnOp) (x : RX) : FOp := fun E _ s H => pureF (unop op (evF E s x)) H
def fEq (k : EqK) (neg : Bool) (x y : RX) : FOp := fun E _ s H => pureF (eqA k neg (evF E s x) (evF E s y)) H
def fMkfn (g : Nat) (cp : List RX) : FOp := fun E _ s H => some (.fn g (mapF E s cp), H)
def fApp (sh : Option Nat) (tag bytes : Nat) (x y : RX) : FOp := fun E _ s H => match elemsF (szOf sh) H (evF E s y) with | some (ys, ny) => appendF sh tag bytes (evF E s x) ys ny H | none => none
def fBslice (sh : Option Nat) (tag n : Nat) (z : List AV) (ps : List (Nat × Nat × RX)) : FOp := fun E _ s H => match fillA (repC z n) (evParts E s ps) with | some cs => numK (lenF H) fun m => some (.sl m 0 n sh, endF H (.arr (szOf sh) tag 0 cs)) | none => none
def fSlow (o : ROp) : FOp := fun E cl s H => o.run E cl s H
def ROp.fast (o : ROp) : FOp :=
  match o with
  | .mov x => fMov x
  | .pick c a b => fPick c a b
  | .box v => fBox v
  | .build z ps => fSlow (.build z ps)
  | .bslice sh tag n z ps => fBslice sh tag n z ps
  | .load sh a => fLoad sh a
  | .store n a v => fStore n a v
  | .nilchk x => fNil x
  | .bin op x y => fBin op x y
  | .eq k neg x y => fEq k neg x y
  | .un op x => fUn op x
  | .toInt k x => fToInt k x
  | .toStr bs x => fSlow (.toStr bs x)
  | .mkfn g cp => fMkfn g cp
  | .mkmap => fSlow .mkmap
  | .slice sz x lo hi mx => fSlice sz x lo hi mx
  | .faddr off x => fFaddr off x
  | .field off sh x => fField off sh x
  | .iaddr sh x i => fIaddr sh x i
  | .aaddr n sh x i => fSlow (.aaddr n sh x i)
  | .index n sh x i => fIndex n sh x i
  | .lookup kk z m k ok => fSlow (.lookup kk z m k ok)
  | .mapupd kk m k v => fSlow (.mapupd kk m k v)
  | .mapent kk z m k => fSlow (.mapent kk z m k)
  | .entst m st v => fSlow (.entst m st v)
  | .ext x i => fExt x i
  | .mkif t x => fSlow (.mkif t x)
  | .call f args => fCall f args
  | .fcall g args => fFcall g args
  | .app sh tag b x y => fApp sh tag b x y
  | .appz sh tag b z x n => fSlow (.appz sh tag b z x n)
  | .len lk x => fLen lk x
  | .cap x => fSlow (.cap x)
  | .copy sz x y => fSlow (.copy sz x y)
  | .clear z x => fSlow (.clear z x)
  | .min x y => fSlow (.min x y)
  | .max x y => fSlow (.max x y)
  | .sdata x => fSlow (.sdata x)
  | .ustr p n => fSlow (.ustr p n)
theorem fast_eq (o : ROp) (E : Env) (cl : Cl') (s : List AV) (H : Heap) : o.fast E cl s H = o.run E cl s H := by
  cases o
  case mov x => simp only [ROp.fast, fMov, ROp.run, evF_eq]
  case pick c a b => simp only [ROp.fast, fPick, ROp.run, evF_eq]; cases c.ev E s <;> rfl
  case box v => simp only [ROp.fast, fBox, ROp.run, evF_eq, box', numK_eq, lenF_eq, endF_eq]
  case bslice sh tag n z ps => simp only [ROp.fast, fBslice, ROp.run, numK_eq, lenF_eq, endF_eq]; cases fillA (repC z n) (evParts E s ps) <;> rfl
  case load sh a => simp only [ROp.fast, fLoad, ROp.run, pureF_eq, evF_eq, loadF_eq]
  case store n a v => simp only [ROp.fast, fStore, ROp.run, heapF_eq, evF_eq, storeF_eq]
  case nilchk x => simp only [ROp.fast, fNil, ROp.run, evF_eq]; cases x.ev E s <;> rfl
  case bin op x y => simp only [ROp.fast, fBin, ROp.run, pureF_eq, binF_eq, evF_eq]
  case eq k neg x y => simp only [ROp.fast, fEq, ROp.run, pureF_eq, evF_eq]
  case un op x => simp only [ROp.fast, fUn, ROp.run, pureF_eq, evF_eq]
  case toInt k x => simp only [ROp.fast, fToInt, ROp.run, evF_eq]; cases x.ev E s <;> rfl
  case mkfn g cp => simp only [ROp.fast, fMkfn, ROp.run, mapF_eq]
  case slice sz x lo hi mx => simp only [ROp.fast, fSlice, ROp.run, pureF_eq, evF_eq, optF_eq]
  case faddr off x => simp only [ROp.fast, fFaddr, ROp.run, pureF_eq, evF_eq]
  case field off sh x => simp only [ROp.fast, fField, ROp.run, evF_eq]; cases x.ev E s <;> simp only [field', pureF_eq]
  case iaddr sh x i => simp only [ROp.fast, fIaddr, ROp.run, pureF_eq, evF_eq]
  case index n sh x i => simp only [ROp.fast, fIndex, ROp.run, pureF_eq, evF_eq]
  case ext x i => simp only [ROp.fast, fExt, ROp.run, evF_eq]; cases x.ev E s <;> simp only [ext', pureF_eq]
  case call f args => simp only [ROp.fast, fCall, ROp.run, evF_eq, mapF_eq]; cases f.ev E s <;> rfl
  case fcall g args => simp only [ROp.fast, fFcall, ROp.run, mapF_eq]
  case len lk x => simp only [ROp.fast, fLen, ROp.run, pureF_eq, evF_eq]
  case app sh tag b x y => simp only [ROp.fast, fApp, ROp.run, evF_eq, elemsF_eq, appendF_eq]; rfl
  all_goals rfl

/-- How the heap is to be laid out behind an operation. -/
inductive HK where | keep | at (b : Nat) | last
def hkOf (E : Env) (s : List AV) (o : ROp) : HK :=
  match o with
  | .store _ a _ => (match evF E s a with | .ptr b _ => .at b | _ => .last)
  | .mapupd _ m _ _ => (match evF E s m with | .map b => .at b | _ => .last)
  | .mapent _ _ m _ => (match evF E s m with | .map b => .at b | _ => .last)
  | .entst m _ _ => (match evF E s m with | .map b => .at b | _ => .last)
  | .ustr p _ => (match evF E s p with | .ptr b _ => .at b | _ => .last)
  | .box _ | .bslice .. | .mkmap | .app .. | .appz .. | .copy .. | .clear .. => .last
  | _ => .keep
def layK {β : Type} (k : HK) (H : Heap) (K : Heap → β) : β := match k with | .keep => K H | .at b => layAt H b K | .last => layEnd H K
theorem layK_eq {β : Type} (k : HK) (H : Heap) (K : Heap → β) : layK k H K = K H := by cases k <;> simp [layK, layAt_eq, layEnd_eq]
def wantF (o : RO) (s : List AV) : Bool := match o.guard with | none => true | some (t, w) => match getF s t with | .bool b => b == w | _ => false
theorem wantF_eq (o : RO) (s : List AV) : wantF o s = o.wanted s := by
  unfold wantF RO.wanted
  cases o.guard with
  | none => rfl
  | some g => obtain ⟨t, w⟩ := g; simp only [getF_eq]; rfl

/-! ### What it turned -/
inductive Eff where | same | at (b : Nat) | any (H H' : Heap)
def quietG (E : Env) (g : Nat) : Bool := match E.prim g with | some _ => false | none => match E.fn g with | some f => f.iso | none => false
def effOf (E : Env) (s : List AV) (H H' : Heap) (o : ROp) : Eff :=
  match o with
  | .store _ a _ => (match evF E s a with | .ptr b _ => .at b | _ => .any H H')
  | .fcall g _ => (match quietG E g with | true => .same | false => .any H H')
  | .call f _ => (match evF E s f with | .fn g _ => (match quietG E g with | true => .same | false => .any H H') | _ => .any H H')
  | .mapupd .. | .mapent .. | .entst .. | .app .. | .appz .. | .copy .. | .clear .. | .ustr .. => .any H H'
  | _ => .same
def Eff.lenOk : Eff → Bool | .any H H' => Nat.ble (lenF H) (lenF H') | _ => true
def Eff.pairOk (f : Option Nat) : Eff → Bool
  | .same => true
  | .at b' => (match f with | none => true | some b => !(Nat.beq b b'))
  | .any H H' => (match f with | none => true | some b => Nat.ble (lenF H) b || decide (nthF H' b = nthF H b))
structure EffOk (e : Eff) (H H' : Heap) : Prop where
  len : e.lenOk = true → H.length ≤ H'.length
  pair : ∀ b, e.pairOk (some b) = true → H.length ≤ b ∨ H'[b]? = H[b]?
theorem EffOk.any (H H' : Heap) : EffOk (.any H H') H H' := ⟨fun h => by simpa [Eff.lenOk, lenF_eq] using h, fun b h => by simpa [Eff.pairOk, lenF_eq, nthF_eq] using h⟩
theorem EffOk.grow (e : Eff) (H X : Heap) : EffOk e H (H ++ X) :=
  ⟨fun _ => by simp, fun b _ => by
    rcases Nat.lt_or_ge b H.length with h | h
    · exact .inr (List.getElem?_append_left h)
    · exact .inl h⟩
theorem EffOk.refl (e : Eff) (H : Heap) : EffOk e H H := ⟨fun _ => Nat.le_refl _, fun _ _ => .inr rfl⟩
def QuietC (E : Env) (cl : Cl') : Prop := ∀ g args H v H', quietG E g = true → cl g args H = some (v, H') → H' = H
theorem effOf_ok {E : Env} {cl : Cl'} (hq : QuietC E cl) {s : List AV} {H H' : Heap} {o : ROp} {v : AV} (h : o.run E cl s H = some (v, H')) : EffOk (effOf E s H H' o) H H' := by
  cases hl : o.loud
  · cases ha : o.isAlloc
    · have := (quiet_run hl ha h).1
      subst this
      exact EffOk.refl _ _
    · obtain ⟨blk, rfl⟩ := alloc_app ha h
      exact EffOk.grow _ _ _
  · cases o <;> simp only [ROp.loud, Bool.false_eq_true] at hl <;> simp only [effOf, evF_eq]
    case store n a x =>
      have h1 : storeA n (a.ev E s) (x.ev E s) H = some H' := by
        obtain ⟨y, h1, h2⟩ := Option.map_eq_some_iff.1 (show (storeA n (a.ev E s) (x.ev E s) H).map (fun H => (undef, H)) = some (v, H') from h)
        injection h2 with h2 h3; subst h3; exact h1
      unfold storeA at h1
      split at h1
      case isFalse => cases h1
      split at h1
      case h_2 => cases h1
      rename_i b off hb
      simp only [hb]
      have key : ∀ y, H.set b y = H' → EffOk (.at b) H H' := by
        rintro y rfl
        refine ⟨fun _ => by simp, fun c hc => .inr ?_⟩
        have : c ≠ b := by rintro rfl; simp [Eff.pairOk] at hc
        rw [List.getElem?_set_ne (Ne.symm this)]
      split at h1
      · split at h1
        · injection h1 with h1; exact key _ h1
        · cases h1
      · split at h1
        · injection h1 with h1; exact key _ h1
        · cases h1
      · cases h1
    case call f args =>
      split
      · rename_i g cp hf
        cases hg : quietG E g
        · exact EffOk.any _ _
        · have h1 : cl g (args.map (RX.ev E s) ++ cp) H = some (v, H') := by simpa only [ROp.run, hf] using h
          have := hq _ _ _ _ _ hg h1
          subst this
          exact EffOk.refl _ _
      · exact EffOk.any _ _
    case fcall g args =>
      cases hg : quietG E g
      · exact EffOk.any _ _
      · have := hq _ _ _ _ _ hg (show cl g (args.map (RX.ev E s)) H = some (v, H') from h)
        subst this
        exact EffOk.refl _ _
    all_goals exact EffOk.any _ _

section
variable (E : Env) (cl : Cl')
def runQ : List RO → List AV → Heap → Option (List AV × Heap)
  | [], s, H => some (s, H)
  | o :: r, s, H => match wantF o s with
    | true => (match o.op.fast E cl s H with
      | none => none
      | some (v, H1) => putK s o.dst v fun s' => layK (hkOf E s o.op) H1 fun H2 => runQ r s' H2)
    | false => putK s o.dst undef fun s' => runQ r s' H
theorem runQ_eq : ∀ (ops : List RO) (s : List AV) (H : Heap), runQ E cl ops s H = runOps E cl ops s H
  | [], s, H => rfl
  | o :: r, s, H => by
    simp only [runQ, runOps, wantF_eq, fast_eq, putK_eq, layK_eq]
    cases o.wanted s
    · exact runQ_eq r _ _
    · simp only [if_true]
      cases o.op.run E cl s H with
      | none => rfl
      | some p => exact runQ_eq r _ _
/-- As it goes: what each one read, and turned. -/
def runTQ : List RO → List AV → Heap → Option (List AV × Heap × List (Option Nat × Eff))
  | [], s, H => some (s, H, [])
  | o :: r, s, H => match wantF o s with
    | true => (match o.op.fast E cl s H with
      | none => none
      | some (v, H1) => putK s o.dst v fun s' => layK (hkOf E s o.op) H1 fun H2 => match runTQ r s' H2 with
        | none => none
        | some (s3, H3, l) => some (s3, H3, (o.op.foot E s H, effOf E s H H2 o.op) :: l))
    | false => putK s o.dst undef fun s' => match runTQ r s' H with
        | none => none
        | some (s3, H3, l) => some (s3, H3, (none, .same) :: l)
theorem runTQ_append : ∀ (a b : List RO) (s : List AV) (H : Heap) {s1 H1 l s2 H2 l2}, runTQ E cl a s H = some (s1, H1, l) → runTQ E cl b s1 H1 = some (s2, H2, l2) → runTQ E cl (a ++ b) s H = some (s2, H2, l ++ l2)
  | [], b, s, H, s1, H1, l, s2, H2, l2, h, k => by
    simp only [runTQ, Option.some.injEq, Prod.mk.injEq] at h
    obtain ⟨rfl, rfl, rfl⟩ := h
    simpa using k
  | o :: r, b, s, H, s1, H1, l, s2, H2, l2, h, k => by
    simp only [List.cons_append, runTQ, wantF_eq, fast_eq, putK_eq, layK_eq] at h ⊢
    cases hw : o.wanted s
    · rw [hw] at h
      simp only at h ⊢
      split at h
      · cases h
      · rename_i s3 H3 l3 h3
        injection h with h; injection h with h1 h2; injection h2 with h2 h4
        subst h1; subst h2; subst h4
        rw [runTQ_append r b _ _ h3 k]; rfl
    · rw [hw] at h
      simp only at h ⊢
      split at h
      · cases h
      · rename_i v Hv hr
        split at h
        · cases h
        · rename_i s3 H3 l3 h3
          injection h with h; injection h with h1 h2; injection h2 with h2 h4
          subst h1; subst h2; subst h4
          rw [runTQ_append r b _ _ h3 k]; rfl
def TQ (q : Option Nat × Eff) (t : Tr) : Prop := q.1 = t.foot ∧ EffOk q.2 t.before t.after
inductive All2 {α β : Type} (R : α → β → Prop) : List α → List β → Prop
  | nil : All2 R [] []
  | cons {a b l m} : R a b → All2 R l m → All2 R (a :: l) (b :: m)
theorem All2.get {α β : Type} {R : α → β → Prop} {l : List α} {m : List β} (h : All2 R l m) : ∀ i : Nat, (l[i]? = none ∧ m[i]? = none) ∨ ∃ a b, l[i]? = some a ∧ m[i]? = some b ∧ R a b := by
  induction h with
  | nil => intro i; exact .inl ⟨by simp, by simp⟩
  | cons h _ ih =>
    intro i
    cases i with
    | zero => exact .inr ⟨_, _, rfl, rfl, h⟩
    | succ i => simpa using ih i
theorem runTQ_le (hq : QuietC E cl) : ∀ (ops : List RO) (s : List AV) (H : Heap) {s' H' l}, runTQ E cl ops s H = some (s', H', l) → ∃ tr, runTr E cl ops s H = some (s', H', tr) ∧ All2 TQ l tr
  | [], s, H, s', H', l, h => by
    simp only [runTQ, Option.some.injEq, Prod.mk.injEq] at h
    obtain ⟨rfl, rfl, rfl⟩ := h
    exact ⟨[], rfl, .nil⟩
  | o :: r, s, H, s', H', l, h => by
    simp only [runTQ, wantF_eq, fast_eq, putK_eq, layK_eq] at h
    simp only [runTr]
    cases hw : o.wanted s
    · rw [hw] at h
      simp only at h
      split at h
      · cases h
      · rename_i s3 H3 l3 h3
        injection h with h; injection h with h1 h2; injection h2 with h2 h4
        subst h1; subst h2; subst h4
        obtain ⟨tr, h5, h6⟩ := runTQ_le hq r _ _ h3
        exact ⟨⟨none, H, H⟩ :: tr, by simp only [Bool.false_eq_true, if_false, h5, Option.map_some], .cons ⟨rfl, EffOk.refl _ _⟩ h6⟩
    · rw [hw] at h
      simp only at h
      split at h
      · cases h
      · rename_i v H1 hr
        split at h
        · cases h
        · rename_i s3 H3 l3 h3
          injection h with h; injection h with h1 h2; injection h2 with h2 h4
          subst h1; subst h2; subst h4
          obtain ⟨tr, h5, h6⟩ := runTQ_le hq r _ _ h3
          exact ⟨⟨o.op.foot E s H, H, H1⟩ :: tr, by simp only [if_true, hr, Option.bind_some, h5, Option.map_some], .cons ⟨rfl, effOf_ok hq hr⟩ h6⟩
def chkQ (ops : List RO) (l : List (Option Nat × Eff)) : Bool :=
  l.all (fun q => q.2.lenOk) && (drawPairs ops).all fun p => match l[p.1]?, l[p.2]? with | some a, some b => b.2.pairOk a.1 | _, _ => true
theorem chkQ_ok {ops : List RO} {l : List (Option Nat × Eff)} {tr : List Tr} (h : All2 TQ l tr) (hc : chkQ ops l = true) :
    (tr.all (fun t => decide (t.before.length ≤ t.after.length)) && (drawPairs ops).all (pairOk tr)) = true := by
  simp only [chkQ, Bool.and_eq_true] at hc
  rw [Bool.and_eq_true]
  constructor
  · have hl := hc.1
    clear hc
    induction h with
    | nil => rfl
    | cons h1 _ ih =>
      simp only [List.all_cons, Bool.and_eq_true] at hl ⊢
      exact ⟨by simpa using h1.2.len hl.1, ih hl.2⟩
  · refine List.all_eq_true.2 fun p hp => ?_
    have hx := List.all_eq_true.1 hc.2 p hp
    unfold pairOk
    rcases h.get p.1 with ⟨_, h1⟩ | ⟨a, ta, h1, h2, h3⟩
    · rw [h1]
    · rcases h.get p.2 with ⟨_, h4⟩ | ⟨b, tb, h4, h5, h6⟩
      · rw [h2, h4]
      · rw [h2, h5]
        rw [h1, h4] at hx
        simp only at hx ⊢
        rw [← h3.1]
        cases hf : a.1 with
        | none => rfl
        | some c =>
          rw [hf] at hx
          have := h6.2.pair c hx
          simpa using this
def execQ : Nat → RC → List AV → Heap → Option (Out × List AV × Heap)
  | _, .skip, s, H => some (.normal, s, H)
  | _, .region ops false, s, H => (match runQ E cl ops s H with | some (s', H') => some (.normal, s', H') | none => none)
  | _, .region ops true, s, H => (match drawOk ops with
    | true => (match runTQ E cl ops s H with | some (s', H', l) => (match chkQ ops l with | true => some (.normal, s', H') | false => none) | none => none)
    | false => none)
  | _, .region2 pre x y, s, H => (match r2Ok pre x y with
    | true => (match runTQ E cl pre s H with
      | some (s1, H1, l) => (match runTQ E cl [x, { y with after := pre.length :: y.after }] s1 H1 with
        | some (s', H', lA) => (match runTQ E cl [y, { x with after := pre.length :: x.after }] s1 H1 with
          | some (_, H2, lB) => (match chkQ (r2A pre x y) (l ++ lA), chkQ (r2B pre x y) (l ++ lB), decide (H2 = H') with | true, true, true => some (.normal, s', H') | _, _, _ => none)
          | none => none)
        | none => none)
      | none => none)
    | false => none)
  | k, .seq a b, s, H => (match execQ k a s H with
    | some (.normal, s', H') => execQ k b s' H'
    | r => r)
  | k, .cond c a b, s, H => match evF E s c with
    | .bool true => execQ k a s H
    | .bool false => execQ k b s H
    | _ => none
  | k, .block id a, s, H => (match execQ k a s H with
    | some (.exit j, s', H') => (match Nat.beq j id with | true => some (.normal, s', H') | false => some (.exit j, s', H'))
    | r => r)
  | _, .exit id, s, H => some (.exit id, s, H)
  | _, .ret, s, H => some (.ret, s, H)
  | k, .loop a, s, H => rounds k (execQ k a) s H
where
  rounds (k : Nat) (body : List AV → Heap → Option (Out × List AV × Heap)) (s : List AV) (H : Heap) : Option (Out × List AV × Heap) :=
    match k with
    | 0 => none
    | k + 1 => match body s H with
      | some (.normal, s', H') => rounds k body s' H'
      | r => r
theorem roundsQ_le {b1 b2 : List AV → Heap → Option (Out × List AV × Heap)} (hb : ∀ s H r, b1 s H = some r → b2 s H = some r) : ∀ (k : Nat) (s : List AV) (H : Heap) {r}, execQ.rounds k b1 s H = some r → exec.rounds k b2 s H = some r
  | 0, s, H, r, h => by simp [execQ.rounds] at h
  | k + 1, s, H, r, h => by
    simp only [execQ.rounds] at h
    simp only [exec.rounds]
    split at h
    · rename_i s' H' h1
      rw [hb _ _ _ h1, Option.bind_some]
      exact roundsQ_le hb k _ _ h
    · rename_i h1
      obtain ⟨out, s', H'⟩ := r
      rw [hb _ _ _ h, Option.bind_some]
      cases out with
      | normal => exact absurd h (h1 s' H')
      | exit id => rfl
      | ret => rfl
theorem execQ_le (hq : QuietC E cl) : ∀ (rc : RC) (k : Nat) (s : List AV) (H : Heap) {r}, execQ E cl k rc s H = some r → exec E cl k rc s H = some r := by
  intro rc
  induction rc with
  | skip => intro k s H r h; simpa [execQ, exec] using h
  | exit id => intro k s H r h; simpa [execQ, exec] using h
  | ret => intro k s H r h; simpa [execQ, exec] using h
  | region ops d =>
    intro k s H r h
    cases d
    · simp only [execQ, runQ_eq] at h
      simp only [exec]
      split at h
      · rename_i s' H' h1; rw [h1, Option.map_some, ← h]
      · cases h
    · simp only [execQ] at h
      simp only [exec]
      split at h
      case h_2 => cases h
      rename_i hd
      rw [if_pos hd]
      split at h
      case h_2 => cases h
      rename_i s' H' l h1
      split at h
      case h_2 => cases h
      rename_i hc
      obtain ⟨tr, h2, h3⟩ := runTQ_le E cl hq _ _ _ h1
      rw [h2, Option.bind_some]
      simp only [chkQ_ok h3 hc, if_true]
      exact h
  | region2 pre x y =>
    intro k s H r h
    simp only [execQ] at h
    simp only [exec]
    split at h
    case h_2 => cases h
    rename_i hd
    rw [if_pos hd]
    split at h
    case h_2 => cases h
    rename_i s1 H1 l h0
    split at h
    case h_2 => cases h
    rename_i s' H' lA h1
    split at h
    case h_2 => cases h
    rename_i s2 H2 lB h2
    split at h
    case h_2 => cases h
    rename_i c1 c2 c3
    obtain ⟨tr, h3, h4⟩ := runTQ_le E cl hq _ _ _ (runTQ_append E cl _ _ _ _ h0 h1)
    obtain ⟨tr2, h5, h6⟩ := runTQ_le E cl hq _ _ _ (runTQ_append E cl _ _ _ _ h0 h2)
    have h3 : runTr E cl (r2A pre x y) s H = some (s', H', tr) := h3
    have h5 : runTr E cl (r2B pre x y) s H = some (s2, H2, tr2) := h5
    rw [h3, Option.bind_some, h5, Option.bind_some]
    simp only [chkQ_ok h4 c1, chkQ_ok h6 c2, c3, Bool.and_self, if_true]
    exact h
  | seq a b iha ihb =>
    intro k s H r h
    simp only [execQ] at h
    simp only [exec]
    split at h
    · rename_i s' H' h1
      rw [iha _ _ _ h1, Option.bind_some]; exact ihb _ _ _ h
    · rename_i h1
      obtain ⟨out, s', H'⟩ := r
      rw [iha _ _ _ h, Option.bind_some]
      cases out with
      | normal => exact absurd h (h1 s' H')
      | exit id => rfl
      | ret => rfl
  | cond c a b iha ihb =>
    intro k s H r h
    simp only [execQ, evF_eq] at h
    simp only [exec]
    split at h
    · rename_i e; rw [e]; exact iha _ _ _ h
    · rename_i e; rw [e]; exact ihb _ _ _ h
    · cases h
  | block id a ih =>
    intro k s H r h
    simp only [execQ] at h
    simp only [exec]
    split at h
    · rename_i j s' H' h1
      rw [ih _ _ _ h1, Option.map_some]
      simp only
      cases hb : Nat.beq j id
      · rw [hb] at h
        rw [if_neg (fun e => by subst e; simp at hb)]; exact h
      · rw [hb] at h
        rw [if_pos (Nat.eq_of_beq_eq_true hb)]; exact h
    · rename_i h1
      obtain ⟨out, s', H'⟩ := r
      rw [ih _ _ _ h, Option.map_some]
      cases out with
      | normal => rfl
      | exit j => exact absurd h (h1 j s' H')
      | ret => rfl
  | loop a ih =>
    intro k s H r h
    simp only [execQ] at h
    simp only [exec]
    exact roundsQ_le (fun s H r h => ih k s H h) k s H h
def resQ (s : List AV) (H : Heap) : List RRes → Option (List AV)
  | [] => some []
  | .tmp t :: r => (match resQ s H r with | some vs => some (getF s t :: vs) | none => none)
  | .cell t sh :: r => (match loadF sh (getF s t) H with | some v => (match resQ s H r with | some vs => some (v :: vs) | none => none) | none => none)
theorem resQ_eq (s : List AV) (H : Heap) : ∀ l, resQ s H l = resOf s H l
  | [] => rfl
  | .tmp t :: r => by simp only [resQ, resOf, getF_eq, resQ_eq s H r]; cases resOf s H r <;> rfl
  | .cell t sh :: r => by
    simp only [resQ, resOf, getF_eq, resQ_eq s H r, loadF_eq]
    cases loadA sh (s.getD t undef) H with
    | none => rfl
    | some v => cases resOf s H r <;> rfl
def bodyQ (k : Nat) (f : RF) (args : List AV) (H : Heap) : Option (AV × Heap) :=
  layL (args ++ List.replicate (f.nt - args.length) undef) fun s => match execQ E cl k f.body s H with
    | none => none
    | some (.exit _, _, _) => none
    | some (_, s', H') => (match resQ s' H' f.res with | some vs => some (packA vs, H') | none => none)
theorem bodyQ_le (hq : QuietC E cl) {k : Nat} {f : RF} {args : List AV} {H : Heap} {r} (h : bodyQ E cl k f args H = some r) : bodyF E cl k f args H = some r := by
  simp only [bodyQ, layL_eq, resQ_eq] at h
  simp only [bodyF]
  split at h
  · cases h
  · cases h
  · rename_i out s' H' hne h1
    rw [execQ_le E cl hq _ _ _ _ h1, Option.bind_some]
    split at h
    · rename_i vs h2
      cases out with
      | exit id => exact (hne id rfl).elim
      | normal => simp only [h2, Option.map_some]; exact h
      | ret => simp only [h2, Option.map_some]; exact h
    · cases h
end
/-- As 'callF'. -/
def callQ (E : Env) : Nat → Nat → List AV → Heap → Option (AV × Heap)
  | 0, _, _, _ => none
  | k + 1, g, args, H =>
    match E.prim g with
    | some p => p args H
    | none => match E.fn g with
      | none => none
      | some f => match f.iso with
        | true => (match pubL false k H args with
          | none => none
          | some args' => match bodyQ E (callQ E k) k f args' [] with
            | none => none
            | some (v, H') => match pub (!AV.noIdsL args) k H' v with
              | some v => some (v, H)
              | none => none)
        | false => bodyQ E (callQ E k) k f args H
theorem callQ_quiet (E : Env) : ∀ k, QuietC E (callQ E k)
  | 0 => fun g args H v H' _ h => by simp [callQ] at h
  | k + 1 => fun g args H v H' hg h => by
    simp only [callQ] at h
    unfold quietG at hg
    split at h
    · rename_i p hp; rw [hp] at hg; cases hg
    · rename_i hp
      rw [hp] at hg
      split at h
      · cases h
      · rename_i f hf
        rw [hf] at hg
        simp only at hg
        rw [hg] at h
        simp only at h
        split at h
        · cases h
        · split at h
          · cases h
          · split at h
            · injection h with h; injection h with h1 h2; exact h2.symm
            · cases h
theorem bodyF_le {E : Env} {c1 c2 : Cl} (hc : LeC c1 c2) {k : Nat} {f : RF} {args : List AV} {H : Heap} {r} (h : bodyF E c1 k f args H = some r) : bodyF E c2 k f args H = some r := by
  simp only [bodyF] at h ⊢
  obtain ⟨p, h1, h2⟩ := Option.bind_eq_some_iff.1 h
  rw [exec_le hc (Nat.le_refl _) h1, Option.bind_some]
  exact h2
theorem callQ_le (E : Env) : ∀ k, LeC (callQ E k) (callF E k)
  | 0 => fun g args H r h => by simp [callQ] at h
  | k + 1 => fun g args H r h => by
    simp only [callQ] at h
    simp only [callF]
    have hb : ∀ {f : RF} {args : List AV} {H : Heap} {r}, bodyQ E (callQ E k) k f args H = some r → bodyF E (callF E k) k f args H = some r := fun h => bodyF_le (callQ_le E k) (bodyQ_le E _ (callQ_quiet E k) h)
    split at h
    · rename_i p hp; rw [hp]; exact h
    · rename_i hp
      rw [hp]
      split at h
      · cases h
      · rename_i f hf
        rw [hf]
        simp only
        cases hi : f.iso
        · rw [hi] at h
          simp only [Bool.false_eq_true, if_false]
          exact hb h
        · rw [hi] at h
          simp only [if_true]
          simp only at h
          split at h
          · cases h
          · rename_i args' h1
            rw [h1, Option.bind_some]
            split at h
            · cases h
            · rename_i v H' h2
              rw [hb h2, Option.bind_some]
              split at h
              · rename_i v' h3; rw [h3, Option.map_some]; exact h
              · cases h
/-- What such a run comes to is what the call comes to. -/
theorem Ret.ofQ {E : Env} {k g : Nat} {args : List AV} {H : Heap} {v : AV} {H' : Heap} (h : callQ E k g args H = some (v, H')) : Ret E g args H v H' := Ret.of (callQ_le E k _ _ _ _ h)
end
end Go.AM

/- What is told of a function may stand in the place of its run. -/
namespace Go.AM
set_option linter.unusedVariables false
set_option linter.unusedSimpArgs false

theorem Pub.at {fr : Bool} {k : Nat} {H : Heap} {v r : AV} (h : pub fr k H v = some r) : Pub fr H v r := by
  refine ⟨k, fun k' hk => ?_⟩
  obtain ⟨d, rfl⟩ := Nat.exists_eq_add_of_le hk
  clear hk
  induction d with
  | zero => exact h
  | succ d ih => exact (pub_le fr H (k + d)).1 _ _ ih
theorem PubL.at {k : Nat} {H : Heap} {v r : List AV} (h : pubL false k H v = some r) : PubL H v r := by
  refine ⟨k, fun k' hk => ?_⟩
  obtain ⟨d, rfl⟩ := Nat.exists_eq_add_of_le hk
  clear hk
  induction d with
  | zero => exact h
  | succ d ih => exact (pub_le false H (k + d)).2 _ _ ih
/-- With more known of the library and of the program's own functions. -/
def Env.with (E : Env) (p : Nat → Option (List AV → Heap → Option (AV × Heap))) : Env := { E with prim := fun g => match p g with | some q => some q | none => E.prim g }
section
variable {E : Env} {p : Nat → Option (List AV → Heap → Option (AV × Heap))}
theorem ev_with (s : List AV) (x : RX) : x.ev (E.with p) s = x.ev E s := by cases x <;> rfl
theorem evs_with (s : List AV) : RX.ev (E.with p) s = RX.ev E s := funext (ev_with s)
theorem parts_with (s : List AV) (l : List (Nat × Nat × RX)) : evParts (E.with p) s l = evParts E s l := by simp only [evParts, ev_with]
theorem run_with (o : ROp) (cl : Cl) (s : List AV) (H : Heap) : o.run (E.with p) cl s H = o.run E cl s H := by
  cases o <;> simp only [ROp.run, evs_with, parts_with]
theorem foot_with (o : ROp) (s : List AV) (H : Heap) : o.foot (E.with p) s H = o.foot E s H := by
  cases o <;> simp only [ROp.foot, evs_with]
/-- Each answer is the program's. -/
def Told (E : Env) (cl : Cl) : Prop := ∀ g args H v H', cl g args H = some (v, H') → Ret E g args H v H'
theorem told_op {cl : Cl} (ht : Told E cl) {o : ROp} {s : List AV} {H : Heap} {v : AV} {H' : Heap} (h : o.run (E.with p) cl s H = some (v, H')) {K : AV → Heap → Prop} (hK : K v H') : wOp E o s H K := by
  rw [run_with] at h
  have other : (∀ f a, o ≠ .call f a) → (∀ g a, o ≠ .fcall g a) → (match o.run E noCall s H with | some p => K p.1 p.2 | none => False) := by
    intro h1 h2
    rw [← run_noCall h1 h2 cl, h]; exact hK
  cases o
  case call f args =>
    simp only [ROp.run] at h
    simp only [wOp]
    split at h
    · rename_i g cp hf
      rw [hf]
      exact ⟨v, H', ht _ _ _ _ _ h, hK⟩
    · cases h
  case fcall g args => exact ⟨v, H', ht _ _ _ _ _ h, hK⟩
  all_goals exact other (by intros; simp) (by intros; simp)
theorem told_ops {cl : Cl} (ht : Told E cl) : ∀ {ops : List RO} {s : List AV} {H : Heap} {s' : List AV} {H' : Heap} {K : List AV → Heap → Prop}, runOps (E.with p) cl ops s H = some (s', H') → K s' H' → wOps E ops K s H
  | [], s, H, s', H', K, h, hK => by
    simp only [runOps, Option.some.injEq, Prod.mk.injEq] at h
    obtain ⟨rfl, rfl⟩ := h; exact hK
  | o :: r, s, H, s', H', K, h, hK => by
    simp only [runOps] at h
    cases hw : o.wanted s
    · rw [hw] at h
      exact ⟨fun e => (by rw [hw] at e; cases e), fun _ => told_ops ht (by simpa using h) hK⟩
    · rw [hw] at h
      simp only [if_true] at h
      obtain ⟨⟨v, H1⟩, h1, h2⟩ := Option.bind_eq_some_iff.1 h
      exact ⟨fun _ => told_op ht h1 (told_ops ht h2 hK), fun e => by rw [hw] at e; cases e⟩
theorem told_tr {cl : Cl} (ht : Told E cl) : ∀ {ops : List RO} {s : List AV} {H : Heap} {s' : List AV} {H' : Heap} {tr : List Tr} {K : List AV → Heap → List Tr → Prop}, runTr (E.with p) cl ops s H = some (s', H', tr) → K s' H' tr → wTr E ops K s H
  | [], s, H, s', H', tr, K, h, hK => by
    simp only [runTr, Option.some.injEq, Prod.mk.injEq] at h
    obtain ⟨rfl, rfl, rfl⟩ := h; exact hK
  | o :: r, s, H, s', H', tr, K, h, hK => by
    simp only [runTr] at h
    cases hw : o.wanted s
    · rw [hw] at h
      simp only [Bool.false_eq_true, if_false] at h
      obtain ⟨⟨s1, H1, t1⟩, h1, h2⟩ := Option.map_eq_some_iff.1 h
      injection h2 with h2 h3; injection h3 with h3 h4
      simp only at h2 h3 h4
      subst h2; subst h3; subst h4
      exact ⟨fun e => (by rw [hw] at e; cases e), fun _ => told_tr ht h1 hK⟩
    · rw [hw] at h
      simp only [if_true] at h
      obtain ⟨⟨v, H1⟩, h1, h2⟩ := Option.bind_eq_some_iff.1 h
      obtain ⟨⟨s1, H2, t1⟩, h3, h4⟩ := Option.map_eq_some_iff.1 h2
      injection h4 with h4 h5; injection h5 with h5 h6
      simp only at h4 h5 h6
      subst h4; subst h5; subst h6
      rw [foot_with] at hK
      exact ⟨fun _ => told_op ht h1 (told_tr ht h3 hK), fun e => by rw [hw] at e; cases e⟩
theorem told_code {cl : Cl} (ht : Told E cl) : ∀ {rc : RC} {k : Nat} {s : List AV} {H : Heap} {out : Out} {s' : List AV} {H' : Heap} {Q : Post}, exec (E.with p) cl k rc s H = some (out, s', H') → Q out s' H' → W E rc Q s H := by
  intro rc
  induction rc with
  | skip => intro k s H out s' H' Q h hQ; simp only [exec, Option.some.injEq, Prod.mk.injEq] at h; obtain ⟨rfl, rfl, rfl⟩ := h; exact hQ
  | exit id => intro k s H out s' H' Q h hQ; simp only [exec, Option.some.injEq, Prod.mk.injEq] at h; obtain ⟨rfl, rfl, rfl⟩ := h; exact hQ
  | ret => intro k s H out s' H' Q h hQ; simp only [exec, Option.some.injEq, Prod.mk.injEq] at h; obtain ⟨rfl, rfl, rfl⟩ := h; exact hQ
  | region ops d =>
    intro k s H out s' H' Q h hQ
    cases d
    · simp only [exec] at h
      obtain ⟨⟨s1, H1⟩, h1, h2⟩ := Option.map_eq_some_iff.1 h
      injection h2 with h2 h3; injection h3 with h3 h4
      subst h2; subst h3; subst h4
      exact told_ops ht h1 hQ
    · simp only [exec] at h
      split at h
      case isFalse => cases h
      rename_i hd
      obtain ⟨⟨s1, H1, tr⟩, h1, h2⟩ := Option.bind_eq_some_iff.1 h
      simp only at h2
      split at h2
      case isFalse => cases h2
      rename_i hc
      injection h2 with h2; injection h2 with h2 h3; injection h3 with h3 h4
      subst h2; subst h3; subst h4
      exact ⟨hd, told_tr ht h1 ⟨hc, hQ⟩⟩
  | region2 pre x y =>
    intro k s H out s' H' Q h hQ
    simp only [exec] at h
    split at h
    case isFalse => cases h
    rename_i hd
    obtain ⟨⟨s1, H1, tr⟩, h1, h2⟩ := Option.bind_eq_some_iff.1 h
    obtain ⟨⟨s2, H2, tr2⟩, h3, h4⟩ := Option.bind_eq_some_iff.1 h2
    simp only at h4
    split at h4
    case isFalse => cases h4
    rename_i hc
    injection h4 with h4; injection h4 with h4 h5; injection h5 with h5 h6
    subst h4; subst h5; subst h6
    rw [Bool.and_eq_true, Bool.and_eq_true] at hc
    exact ⟨hd, _, _, told_tr ht h1 ⟨hc.1.1, rfl, rfl⟩, told_tr ht h3 ⟨hc.1.2, by simpa using hc.2⟩, hQ⟩
  | seq a b iha ihb =>
    intro k s H out s' H' Q h hQ
    simp only [exec] at h
    obtain ⟨⟨o1, s1, H1⟩, h1, h2⟩ := Option.bind_eq_some_iff.1 h
    refine iha h1 ?_
    cases o1 with
    | normal => exact ihb h2 hQ
    | exit id => simp only [Option.some.injEq, Prod.mk.injEq] at h2; obtain ⟨rfl, rfl, rfl⟩ := h2; exact hQ
    | ret => simp only [Option.some.injEq, Prod.mk.injEq] at h2; obtain ⟨rfl, rfl, rfl⟩ := h2; exact hQ
  | cond c a b iha ihb =>
    intro k s H out s' H' Q h hQ
    simp only [exec, ev_with] at h
    simp only [W]
    split at h
    · rename_i e; rw [e]; exact ⟨fun _ => iha h hQ, by simp⟩
    · rename_i e; rw [e]; exact ⟨by simp, fun _ => ihb h hQ⟩
    · cases h
  | block id a ih =>
    intro k s H out s' H' Q h hQ
    simp only [exec] at h
    obtain ⟨⟨o1, s1, H1⟩, h1, h2⟩ := Option.map_eq_some_iff.1 h
    refine ih h1 ?_
    cases o1 with
    | normal => simp only [Prod.mk.injEq] at h2; obtain ⟨rfl, rfl, rfl⟩ := h2; exact hQ
    | exit j =>
      simp only at h2 ⊢
      split at h2
      · rename_i e; rw [if_pos e]; simp only [Prod.mk.injEq] at h2; obtain ⟨rfl, rfl, rfl⟩ := h2; exact hQ
      · rename_i e; rw [if_neg e]; simp only [Prod.mk.injEq] at h2; obtain ⟨rfl, rfl, rfl⟩ := h2; exact hQ
    | ret => simp only [Prod.mk.injEq] at h2; obtain ⟨rfl, rfl, rfl⟩ := h2; exact hQ
  | loop a ih =>
    intro k s H out s' H' Q h hQ
    simp only [exec] at h
    have key : ∀ (n : Nat) (s : List AV) (H : Heap), exec.rounds n (exec (E.with p) cl k a) s H = some (out, s', H') → wRounds (W E a) Q n s H := by
      intro n
      induction n with
      | zero => intro s H h; simp [exec.rounds] at h
      | succ n ihn =>
        intro s H h
        simp only [exec.rounds] at h
        obtain ⟨⟨o1, s1, H1⟩, h1, h2⟩ := Option.bind_eq_some_iff.1 h
        refine ih h1 ?_
        cases o1 with
        | normal => exact ihn _ _ h2
        | exit id => simp only [Option.some.injEq, Prod.mk.injEq] at h2; obtain ⟨rfl, rfl, rfl⟩ := h2; exact hQ
        | ret => simp only [Option.some.injEq, Prod.mk.injEq] at h2; obtain ⟨rfl, rfl, rfl⟩ := h2; exact hQ
    exact ⟨k, key k s H h⟩
theorem told_body {cl : Cl} (ht : Told E cl) {k : Nat} {f : RF} {args : List AV} {H : Heap} {v : AV} {H' : Heap} (h : bodyF (E.with p) cl k f args H = some (v, H')) :
    W E f.body (fun out s' H1 => (∀ id, out ≠ .exit id) ∧ (resOf s' H1 f.res).map packA = some v ∧ H1 = H') (args ++ List.replicate (f.nt - args.length) undef) H := by
  simp only [bodyF] at h
  obtain ⟨⟨o1, s1, H1⟩, h1, h2⟩ := Option.bind_eq_some_iff.1 h
  refine told_code ht h1 ?_
  cases o1 with
  | exit id => cases h2
  | normal =>
    obtain ⟨vs, h3, h4⟩ := Option.map_eq_some_iff.1 h2
    injection h4 with h4 h5
    exact ⟨by simp, by simp only at h3; rw [h3, Option.map_some, h4], h5⟩
  | ret =>
    obtain ⟨vs, h3, h4⟩ := Option.map_eq_some_iff.1 h2
    injection h4 with h4 h5
    exact ⟨by simp, by simp only at h3; rw [h3, Option.map_some, h4], h5⟩
theorem told (hp : ∀ g q, p g = some q → ∀ args H v H', q args H = some (v, H') → Ret E g args H v H') : ∀ k, Told E (callF (E.with p) k)
  | 0 => fun g args H v H' h => by simp [callF] at h
  | k + 1 => fun g args H v H' h => by
    simp only [callF] at h
    cases hq : p g with
    | some q =>
      have : (E.with p).prim g = some q := by simp only [Env.with, hq]
      rw [this] at h
      exact hp g q hq _ _ _ _ h
    | none =>
      have e : (E.with p).prim g = E.prim g := by simp only [Env.with, hq]
      rw [e] at h
      cases hE : E.prim g with
      | some q => rw [hE] at h; exact ⟨1, fun k' hk => by obtain ⟨i, rfl⟩ : ∃ i, k' = i + 1 := ⟨k' - 1, by omega⟩; simp only [callF, hE]; exact h⟩
      | none =>
        rw [hE] at h
        have e2 : (E.with p).fn g = E.fn g := rfl
        rw [e2] at h
        cases hf : E.fn g with
        | none => rw [hf] at h; cases h
        | some f =>
          rw [hf] at h
          simp only at h
          cases hi : f.iso
          · rw [hi] at h
            simp only [Bool.false_eq_true, if_false] at h
            exact Ret.open hE hf hi (told_body (told hp k) h)
          · rw [hi] at h
            simp only [if_true] at h
            obtain ⟨args', h1, h2⟩ := Option.bind_eq_some_iff.1 h
            obtain ⟨⟨v0, H0⟩, h3, h4⟩ := Option.bind_eq_some_iff.1 h2
            obtain ⟨v1, h5, h6⟩ := Option.map_eq_some_iff.1 h4
            injection h6 with h6 h7
            subst h6; subst h7
            refine Ret.iso hE hf hi (PubL.at h1) (W_mono (fun out s' H1 hh => ?_) (told_body (told hp k) h3))
            obtain ⟨g1, g2, g3⟩ := hh
            subst g3
            exact ⟨g1, v0, g2, Pub.at h5⟩
theorem Ret.told (hp : ∀ g q, p g = some q → ∀ args H v H', q args H = some (v, H') → Ret E g args H v H') {k g : Nat} {args : List AV} {H : Heap} {v : AV} {H' : Heap} (h : callQ (E.with p) k g args H = some (v, H')) : Ret E g args H v H' :=
  AM.told hp k _ _ _ _ _ (callQ_le _ k _ _ _ _ h)
/-- A function in a heap of its own answers the same in every heap. -/
theorem Ret.any {g : Nat} {f : RF} {args : List AV} {v : AV} {H0 H1 : Heap} (hp : E.prim g = none) (hf : E.fn g = some f) (hi : f.iso = true) (hn : AV.noIdsL args = true) (h : Ret E g args H0 v H1) (H : Heap) : Ret E g args H v H := by
  obtain ⟨k, hk⟩ := h
  obtain ⟨k1, h1⟩ := PubL.plain (H := H0) hn
  obtain ⟨k2, h2⟩ := PubL.plain (H := H) hn
  refine ⟨max k (max k1 k2) + 1, fun k' hk' => ?_⟩
  obtain ⟨i, rfl⟩ : ∃ i, k' = i + 1 := ⟨k' - 1, by omega⟩
  have := hk (i + 1) (by omega)
  simp only [callF, hp, hf, hi, if_true, h1 i (by omega), Option.bind_some] at this
  simp only [callF, hp, hf, hi, if_true, h2 i (by omega), Option.bind_some]
  obtain ⟨r, h3, h4⟩ := Option.bind_eq_some_iff.1 this
  obtain ⟨v', h5, h6⟩ := Option.map_eq_some_iff.1 h4
  injection h6 with h6 h7
  rw [h3, Option.bind_some, h5, Option.map_some, h6]
end
end Go.AM
