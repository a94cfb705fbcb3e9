/- What a value of the A-machine stands for in the model's world; how that lives on while the world goes on. -/
import Derived.Test.YtbdpkblldffkcaaGreatDoorAa
import Derived.Orders
import Derived.Lib.FrozenHead
import Derived.Laws.Sem
import Derived.Laws.Cells
import Derived.Laws.Strings
import Derived.Lib.AppendStr
import Derived.Lib.Strings
set_option linter.unusedSectionVars false
set_option linter.unnecessarySimpa false
set_option linter.deprecated false
set_option linter.unusedVariables false
set_option linter.unusedSimpArgs false
namespace Go.AM

/-- How a program's own numbers stand to the A-machine's: functions, types; what its variables hold. -/
structure Link where
  P : Program
  fn : Nat → FuncId
  ty : Nat → TypeId

/-- Which block of the world a block stands for, and from which cell on; 'bar': blocks of the world that are others' own. -/
structure Map where
  f : Nat → Option (Nat × Nat)
  bar : Nat → Prop
instance : CoeFun Map (fun _ => Nat → Option (Nat × Nat)) := ⟨Map.f⟩
def live (H : Heap) (b : Nat) : Prop := ∃ x, H[b]? = some x ∧ x ≠ .dead
def Mine (ρ : Map) (H : Heap) (c : Nat) : Prop := ∃ b base, ρ b = some (c, base) ∧ live H b
def Own (ρ : Map) (H : Heap) (c : Nat) : Prop := Mine ρ H c ∨ ρ.bar c

mutual
inductive VR (L : Link) (w : World) (ρ : Map) (own : Nat → Prop) : AV → Value → Prop
  | bool (b : Bool) : VR L w ρ own (.bool b) (.bool b)
  | int (k : IntKind) (n : Int) : VR L w ρ own (.int k n) (.int k n)
  | str (s : ByteArray) : VR L w ρ own (.str s.data.toList) (.string s)
  | nilp : VR L w ρ own .nilp (.pointer none)
  | ptr {b off c base : Nat} : ρ b = some (c, base) → VR L w ρ own (.ptr b off) (.pointer (some ⟨c, base + off, none⟩))
  | dptr {cs : List AV} {vals : List Value} {a : Addr} : VRs L w ρ own cs vals → (∀ c ∈ cs, c.isCell = true) → (∀ j, j < vals.length → w.cell? (a.add j) = vals[j]?) → (0 < vals.length → ¬ own a.block) → VR L w ρ own (.dptr cs) (.pointer (some a))
  | nils : VR L w ρ own .nils (.slice none 0 0)
  | sl {b off len : Nat} {sh : Option Nat} {c base cap : Nat} {a : Addr} : ρ b = some (c, base) → len ≤ cap →
      (0 < cap → a = ⟨c, base + off, none⟩ ∧ ∃ cs ty fr, w.heap[c]? = some (.cells cs ty fr) ∧ base + off + cap * szOf sh ≤ cs.size) → VR L w ρ own (.sl b off len sh) (.slice (some a) len cap)
  | data {xs : List AV} {vals : List Value} {a : Addr} {c : Nat} : VRs L w ρ own (xs.flatMap AV.cells) vals → (∀ c ∈ xs.flatMap AV.cells, c.isCell = true) → xs.length ≤ c →
      (∀ j, j < vals.length → w.cell? (a.add j) = vals[j]?) → (0 < vals.length → ¬ own a.block) → VR L w ρ own (.data xs) (.slice (some a) xs.length c)
  | nilm : VR L w ρ own .nilm (.map none)
  | map {b c : Nat} : ρ b = some (c, 0) → VR L w ρ own (.map b) (.map (some c))
  | dmap {ks vs : List AV} {es : Array MapEntry} {clock c : Nat} : w.heap[c]? = some (.map es clock) → ¬ own c →
      VRs L w ρ own ks (es.toList.map (·.key)) → VRs L w ρ own vs (es.toList.map (·.val)) → VR L w ρ own (.dmap ks vs) (.map (some c))
  | nilf : VR L w ρ own .nilf .nilFunc
  | fn {g : Nat} {cp : List AV} {xs : List Value} : VRs L w ρ own cp xs → VR L w ρ own (.fn g cp) (.func (.func (L.fn g)) #[] xs.toArray)
  | nili : VR L w ρ own .nili .nilIface
  | iface {t : Nat} {v : AV} {x : Value} : VR L w ρ own v x → VR L w ρ own (.iface t v) (.iface (L.ty t) x)
  | agg {cs : List AV} {xs : List Value} : VRs L w ρ own cs xs → (∀ c ∈ cs, c.isCell = true) → VR L w ρ own (.agg cs) (.agg xs.toArray)
  | tup {vs : List AV} {xs : List Value} : VRs L w ρ own vs xs → VR L w ρ own (.tup vs) (.tuple xs.toArray)
inductive VRs (L : Link) (w : World) (ρ : Map) (own : Nat → Prop) : List AV → List Value → Prop
  | nil : VRs L w ρ own [] []
  | cons {v : AV} {r : List AV} {x : Value} {q : List Value} : VR L w ρ own v x → VRs L w ρ own r q → VRs L w ρ own (v :: r) (x :: q)
end

/-! ### Lists of values -/
section
variable {L : Link} {w : World} {ρ : Map} {own : Nat → Prop}
theorem VRs.length {vs : List AV} {xs : List Value} (h : VRs L w ρ own vs xs) : vs.length = xs.length := by
  induction vs generalizing xs with
  | nil => cases h; rfl
  | cons v r ih => cases h with | cons h1 h2 => simp [ih h2]
theorem VRs.append {a b : List AV} {x y : List Value} (h : VRs L w ρ own a x) (k : VRs L w ρ own b y) : VRs L w ρ own (a ++ b) (x ++ y) := by
  induction a generalizing x with
  | nil => cases h; exact k
  | cons v r ih => cases h with | cons h1 h2 => exact .cons h1 (ih h2)
theorem VRs.take {a : List AV} {x : List Value} (h : VRs L w ρ own a x) (n : Nat) : VRs L w ρ own (a.take n) (x.take n) := by
  induction n generalizing a x with
  | zero => simpa using VRs.nil
  | succ n ih => cases h with
    | nil => simpa using VRs.nil
    | cons h1 h2 => exact .cons h1 (ih h2)
theorem VRs.drop {a : List AV} {x : List Value} (h : VRs L w ρ own a x) (n : Nat) : VRs L w ρ own (a.drop n) (x.drop n) := by
  induction n generalizing a x with
  | zero => simpa using h
  | succ n ih => cases h with
    | nil => simpa using VRs.nil
    | cons h1 h2 => exact ih h2
theorem VRs.get? {a : List AV} {x : List Value} (h : VRs L w ρ own a x) {i : Nat} {v : AV} (hv : a[i]? = some v) : ∃ y, x[i]? = some y ∧ VR L w ρ own v y := by
  induction i generalizing a x with
  | zero => cases h with
    | nil => simp at hv
    | cons h1 h2 => simp at hv; subst hv; exact ⟨_, rfl, h1⟩
  | succ i ih => cases h with
    | nil => simp at hv
    | cons h1 h2 => simp at hv ⊢; exact ih h2 hv
theorem VRs.getD {a : List AV} {x : List Value} (h : VRs L w ρ own a x) (i : Nat) {d : AV} {e : Value} (hd : VR L w ρ own d e) : VR L w ρ own (a.getD i d) (x.getD i e) := by
  simp only [List.getD_eq_getElem?_getD]
  cases hv : a[i]? with
  | none =>
    have : x[i]? = none := by rw [List.getElem?_eq_none_iff] at hv ⊢; rw [← h.length]; exact hv
    simpa [hv, this] using hd
  | some v => obtain ⟨y, hy, hr⟩ := h.get? hv; simpa [hv, hy] using hr
theorem VRs.set {a : List AV} {x : List Value} (h : VRs L w ρ own a x) (i : Nat) {v : AV} {y : Value} (hv : VR L w ρ own v y) : VRs L w ρ own (a.set i v) (x.set i y) := by
  induction i generalizing a x with
  | zero => cases h with
    | nil => simpa using VRs.nil
    | cons h1 h2 => exact .cons hv h2
  | succ i ih => cases h with
    | nil => simpa using VRs.nil
    | cons h1 h2 => exact .cons h1 (ih h2)
theorem VRs.map2 {α : Type} {f : α → AV} {g : α → Value} (l : List α) (h : ∀ x ∈ l, VR L w ρ own (f x) (g x)) : VRs L w ρ own (l.map f) (l.map g) := by
  induction l with
  | nil => exact .nil
  | cons a r ih => exact .cons (h a (by simp)) (ih fun x hx => h x (by simp [hx]))
theorem VRs.replicate (n : Nat) {v : AV} {x : Value} (h : VR L w ρ own v x) : VRs L w ρ own (List.replicate n v) (List.replicate n x) := by
  induction n with
  | zero => exact .nil
  | succ n ih => exact .cons h ih
theorem VR.undef : VR L w ρ own undef Go.undef := by
  have := VR.tup (L := L) (w := w) (ρ := ρ) (own := own) VRs.nil
  simpa [AM.undef, Go.undef] using this
theorem VR.cells {v : AV} {x : Value} (h : VR L w ρ own v x) : VRs L w ρ own v.cells x.cells.toList := by
  cases h with
  | agg h _ => simpa [AV.cells, Value.cells] using h
  | bool b => exact .cons (.bool b) .nil
  | int k n => exact .cons (.int k n) .nil
  | str s => exact .cons (.str s) .nil
  | nilp => exact .cons .nilp .nil
  | ptr h => exact .cons (.ptr h) .nil
  | dptr a b c d => exact .cons (.dptr a b c d) .nil
  | nils => exact .cons .nils .nil
  | sl a b c => exact .cons (.sl a b c) .nil
  | data a b c d e => exact .cons (.data a b c d e) .nil
  | nilm => exact .cons .nilm .nil
  | map h => exact .cons (.map h) .nil
  | dmap a b c d => exact .cons (.dmap a b c d) .nil
  | nilf => exact .cons .nilf .nil
  | fn h => exact .cons (.fn h) .nil
  | nili => exact .cons .nili .nil
  | iface h => exact .cons (.iface h) .nil
  | tup h => exact .cons (.tup h) .nil
theorem VR.isAgg {v : AV} {x : Value} (h : VR L w ρ own v x) : v.isCell = true → (∀ c, x ≠ .agg c) ∧ (∀ c, x ≠ .tuple c) := by
  intro hc
  cases h <;> simp_all [AV.isCell]
end

/-! ### The world goes on -/
structure Ext (w : World) (ρ : Map) (H : Heap) (w' : World) (ρ' : Map) (H' : Heap) : Prop where
  os : w'.os = w.os
  tape : w'.tape = w.tape
  output : w'.output = w.output
  size : w.heap.size ≤ w'.heap.size
  keep : ∀ c : Nat, c < w.heap.size → ¬ Mine ρ H c → w'.heap[c]? = w.heap[c]?
  shape : ∀ (c : Nat) (cs : Array Value) (ty : TypeId) (fr : Nat × Nat), w.heap[c]? = some (Obj.cells cs ty fr) → ∃ (cs' : Array Value) (fr' : Nat × Nat), w'.heap[c]? = some (Obj.cells cs' ty fr') ∧ cs'.size = cs.size
  ext : ∀ b x, ρ b = some x → ρ' b = some x
  mine : ∀ c : Nat, c < w.heap.size → Mine ρ' H' c → Mine ρ H c
  bar : ρ'.bar = ρ.bar
  ghost : ∀ b : Nat, b < H.length → ρ b = none → ρ' b = none ∧ H'[b]? = H[b]?
  len : H.length ≤ H'.length
  dead : ∀ b : Nat, H[b]? = some .dead → H'[b]? = some .dead

theorem Ext.refl (w : World) (ρ : Map) (H : Heap) : Ext w ρ H w ρ H :=
  ⟨rfl, rfl, rfl, Nat.le_refl _, fun _ _ _ => rfl, fun _ cs _ fr h => ⟨cs, fr, h, rfl⟩, fun _ _ h => h, fun _ _ h => h, rfl, fun _ _ h => ⟨h, rfl⟩, Nat.le_refl _, fun _ h => h⟩
theorem Ext.trans {w w1 w2 : World} {ρ ρ1 ρ2 : Map} {H H1 H2 : Heap} (h : Ext w ρ H w1 ρ1 H1) (k : Ext w1 ρ1 H1 w2 ρ2 H2) : Ext w ρ H w2 ρ2 H2 where
  os := k.os.trans h.os
  tape := k.tape.trans h.tape
  output := k.output.trans h.output
  size := Nat.le_trans h.size k.size
  keep c hc ho := (k.keep c (Nat.lt_of_lt_of_le hc h.size) fun o => ho (h.mine c hc o)).trans (h.keep c hc ho)
  shape c cs ty fr hc := by
    obtain ⟨cs1, fr1, h1, e1⟩ := h.shape c cs ty fr hc
    obtain ⟨cs2, fr2, h2, e2⟩ := k.shape c cs1 ty fr1 h1
    exact ⟨cs2, fr2, h2, e2.trans e1⟩
  ext b x hb := k.ext b x (h.ext b x hb)
  mine c hc o := h.mine c hc (k.mine c (Nat.lt_of_lt_of_le hc h.size) o)
  bar := k.bar.trans h.bar
  ghost b hb hr := by
    obtain ⟨h1, h2⟩ := h.ghost b hb hr
    obtain ⟨k1, k2⟩ := k.ghost b (Nat.lt_of_lt_of_le hb h.len) h1
    exact ⟨k1, k2.trans h2⟩
  len := Nat.le_trans h.len k.len
  dead b hb := k.dead b (h.dead b hb)

theorem World.block_lt_of_cell {w : World} {a : Addr} {v : Value} (h : w.cell? a = some v) : a.block < w.heap.size := by
  unfold World.cell? at h
  cases hb : w.heap[a.block]? with
  | none => simp [hb] at h
  | some o => exact (Array.getElem?_eq_some_iff.1 hb).1
theorem World.cell_of_block {w w' : World} {a : Addr} (h : w'.heap[a.block]? = w.heap[a.block]?) : w'.cell? a = w.cell? a := by
  unfold World.cell?; rw [h]
theorem Addr.add_block (a : Addr) (n : Nat) : (a.add n).block = a.block := by unfold Addr.add; split <;> rfl
theorem Addr.add_add (a : Addr) (m n : Nat) : (a.add m).add n = a.add (m + n) := by
  unfold Addr.add
  by_cases hm : m = 0
  · subst hm; simp
  · by_cases hn : n = 0
    · subst hn; simp
    · simp [hm, hn, Nat.add_assoc]
theorem Addr.plain_add (c o n : Nat) : (⟨c, o, none⟩ : Addr).add n = ⟨c, o + n, none⟩ := by
  unfold Addr.add; split <;> simp_all

/-- What of it values ask for. -/
structure ExtC (w : World) (ρ : Map) (H : Heap) (w' : World) (ρ' : Map) (H' : Heap) : Prop where
  keep : ∀ c : Nat, c < w.heap.size → ¬ Mine ρ H c → w'.heap[c]? = w.heap[c]?
  shape : ∀ (c : Nat) (cs : Array Value) (ty : TypeId) (fr : Nat × Nat), w.heap[c]? = some (Obj.cells cs ty fr) → ∃ (cs' : Array Value) (fr' : Nat × Nat), w'.heap[c]? = some (Obj.cells cs' ty fr') ∧ cs'.size = cs.size
  ext : ∀ b x, ρ b = some x → ρ' b = some x
  mine : ∀ c : Nat, c < w.heap.size → Mine ρ' H' c → Mine ρ H c
  bar : ρ'.bar = ρ.bar
theorem Ext.toC {w w' : World} {ρ ρ' : Map} {H H' : Heap} (e : Ext w ρ H w' ρ' H') : ExtC w ρ H w' ρ' H' := ⟨e.keep, e.shape, e.ext, e.mine, e.bar⟩
theorem ExtC.own {w w' : World} {ρ ρ' : Map} {H H' : Heap} (e : ExtC w ρ H w' ρ' H') (c : Nat) (hc : c < w.heap.size) (h : Own ρ' H' c) : Own ρ H c := by
  rcases h with h | h
  · exact .inl (e.mine c hc h)
  · exact .inr (e.bar ▸ h)

mutual
theorem VR.extC {L : Link} {w w' : World} {ρ ρ' : Map} {H H' : Heap} (e : ExtC w ρ H w' ρ' H') : ∀ {v : AV} {x : Value}, VR L w ρ (Own ρ H) v x → VR L w' ρ' (Own ρ' H') v x
  | _, _, .bool b => .bool b
  | _, _, .int k n => .int k n
  | _, _, .str s => .str s
  | _, _, .nilp => .nilp
  | _, _, .ptr h => .ptr (e.ext _ _ h)
  | _, _, .dptr (vals := vals) (a := a) h hi hc ho =>
    .dptr (VRs.extC e h) hi (fun j hj => by
      have h0 := hc j hj
      have hs : ∃ v, vals[j]? = some v := ⟨vals[j], List.getElem?_eq_getElem hj⟩
      obtain ⟨v, hv⟩ := hs
      rw [hv] at h0
      have hlt := World.block_lt_of_cell h0
      rw [Addr.add_block] at hlt
      rw [World.cell_of_block (w := w), hv, ← h0]
      rw [Addr.add_block]
      exact e.keep _ hlt fun o => ho (by omega) (.inl o))
      (fun hp o => by
        have h0 := hc 0 hp
        have hv : vals[0]? = some vals[0] := List.getElem?_eq_getElem hp
        rw [hv] at h0
        have hlt := World.block_lt_of_cell h0
        rw [Addr.add_block] at hlt
        exact ho hp (e.own _ hlt o))
  | _, _, .nils => .nils
  | _, _, .sl h hl hc => .sl (e.ext _ _ h) hl (fun hp => by
      obtain ⟨ha, cs, ty, fr, hw, hle⟩ := hc hp
      obtain ⟨cs', fr', hw', hs⟩ := e.shape _ _ _ _ hw
      exact ⟨ha, cs', ty, fr', hw', by omega⟩)
  | _, _, .data (vals := vals) (a := a) h hi hl hc ho =>
    .data (VRs.extC e h) hi hl (fun j hj => by
      have h0 := hc j hj
      have hv : vals[j]? = some vals[j] := List.getElem?_eq_getElem hj
      rw [hv] at h0
      have hlt := World.block_lt_of_cell h0
      rw [Addr.add_block] at hlt
      rw [World.cell_of_block (w := w), hv, ← h0]
      rw [Addr.add_block]
      exact e.keep _ hlt fun o => ho (by omega) (.inl o))
      (fun hp o => by
        have h0 := hc 0 hp
        have hv : vals[0]? = some vals[0] := List.getElem?_eq_getElem hp
        rw [hv] at h0
        have hlt := World.block_lt_of_cell h0
        rw [Addr.add_block] at hlt
        exact ho hp (e.own _ hlt o))
  | _, _, .nilm => .nilm
  | _, _, .map h => .map (e.ext _ _ h)
  | _, _, .dmap (c := c) hw ho hk hv => by
    have hlt : c < w.heap.size := (Array.getElem?_eq_some_iff.1 hw).1
    exact .dmap ((e.keep c hlt fun o => ho (.inl o)).trans hw) (fun o => ho (e.own c hlt o)) (VRs.extC e hk) (VRs.extC e hv)
  | _, _, .nilf => .nilf
  | _, _, .fn h => .fn (VRs.extC e h)
  | _, _, .nili => .nili
  | _, _, .iface h => .iface (VR.extC e h)
  | _, _, .agg h hc => .agg (VRs.extC e h) hc
  | _, _, .tup h => .tup (VRs.extC e h)
theorem VRs.extC {L : Link} {w w' : World} {ρ ρ' : Map} {H H' : Heap} (e : ExtC w ρ H w' ρ' H') : ∀ {v : List AV} {x : List Value}, VRs L w ρ (Own ρ H) v x → VRs L w' ρ' (Own ρ' H') v x
  | _, _, .nil => .nil
  | _, _, .cons h r => .cons (VR.extC e h) (VRs.extC e r)
end

theorem VR.ext {L : Link} {w w' : World} {ρ ρ' : Map} {H H' : Heap} (e : Ext w ρ H w' ρ' H') {v : AV} {x : Value} (h : VR L w ρ (Own ρ H) v x) : VR L w' ρ' (Own ρ' H') v x := VR.extC e.toC h
theorem VRs.ext {L : Link} {w w' : World} {ρ ρ' : Map} {H H' : Heap} (e : Ext w ρ H w' ρ' H') {v : List AV} {x : List Value} (h : VRs L w ρ (Own ρ H) v x) : VRs L w' ρ' (Own ρ' H') v x := VRs.extC e.toC h

/-! ### The heap -/
/-- What block b of the A-machine's stands for: block c of the world, from cell 'base' on. -/
def BR (L : Link) (w : World) (ρ : Map) (own : Nat → Prop) (c base : Nat) : Blk → Prop
  | .dead => True
  | .cells cs => base = 0 ∧ ∃ vals ty fr, w.heap[c]? = some (.cells vals ty fr) ∧ VRs L w ρ own cs vals.toList ∧ fr.2 = 0 ∧ ∀ v ∈ cs, v.isCell = true
  | .arr sz tag fz cs => ∃ full ty fr, w.heap[c]? = some (.cells full ty fr) ∧ base + cs.length ≤ full.size ∧ VRs L w ρ own cs ((full.toList.drop base).take cs.length) ∧ fr.2 ≤ base + fz ∧
      (tag = 1 → sz = 1 ∧ L.P.underlying ty = some (.int .u8) ∧ L.P.cellsOf ty = 1) ∧ ∀ v ∈ cs, v.isCell = true
  | .map ks vs => base = 0 ∧ ∃ es, w.heap[c]? = some (.map es es.size) ∧ VRs L w ρ own ks (es.toList.map (·.key)) ∧ VRs L w ρ own vs (es.toList.map (·.val)) ∧ ∀ i (h : i < es.size), es[i].born = i

structure HR (L : Link) (w : World) (ρ : Map) (H : Heap) : Prop where
  bar : ∀ c, ρ.bar c → c < w.heap.size
  dom : ∀ b c base, ρ b = some (c, base) → b < H.length ∧ c < w.heap.size
  inj : ∀ b b' c base base', ρ b = some (c, base) → ρ b' = some (c, base') → live H b → live H b' → b = b'
  blk : ∀ b c base x, ρ b = some (c, base) → H[b]? = some x → BR L w ρ (Own ρ H) c base x

theorem BR.extC {L : Link} {w w' : World} {ρ ρ' : Map} {H H' : Heap} (e : ExtC w ρ H w' ρ' H') {c base : Nat} {x : Blk} (hw : w'.heap[c]? = w.heap[c]?) (h : BR L w ρ (Own ρ H) c base x) : BR L w' ρ' (Own ρ' H') c base x := by
  cases x with
  | dead => trivial
  | cells cs => obtain ⟨h0, vals, ty, fr, hc, hv, hf, hi⟩ := h; exact ⟨h0, vals, ty, fr, hw.trans hc, hv.extC e, hf, hi⟩
  | arr sz tag fz cs => obtain ⟨full, ty, fr, hc, hl, hv, hf, ht, hi⟩ := h; exact ⟨full, ty, fr, hw.trans hc, hl, hv.extC e, hf, ht, hi⟩
  | map ks vs => obtain ⟨h0, es, hc, hk, hv, hb⟩ := h; exact ⟨h0, es, hw.trans hc, hk.extC e, hv.extC e, hb⟩
theorem BR.ext {L : Link} {w w' : World} {ρ ρ' : Map} {H H' : Heap} (e : Ext w ρ H w' ρ' H') {c base : Nat} {x : Blk} (hw : w'.heap[c]? = w.heap[c]?) (h : BR L w ρ (Own ρ H) c base x) : BR L w' ρ' (Own ρ' H') c base x := BR.extC e.toC hw h
end Go.AM

/- The changes of a heap: a new block; a block written; a block that moves. -/
namespace Go.AM
set_option linter.unusedVariables false

def upd (ρ : Map) (b : Nat) (x : Nat × Nat) : Map := ⟨fun i => if i = b then some x else ρ i, ρ.bar⟩
theorem upd_same (ρ : Map) (b : Nat) (x : Nat × Nat) : upd ρ b x b = some x := by simp [upd]
theorem upd_other (ρ : Map) {b i : Nat} (x : Nat × Nat) (h : i ≠ b) : upd ρ b x i = ρ i := by simp [upd, h]

theorem live_lt {H : Heap} {b : Nat} (h : live H b) : b < H.length := by
  obtain ⟨x, hx, _⟩ := h
  exact (List.getElem?_eq_some_iff.1 hx).1
theorem live_of {H : Heap} {b : Nat} {x : Blk} (h : H[b]? = some x) (hx : x ≠ .dead) : live H b := ⟨x, h, hx⟩

section
variable {L : Link} {w w' : World} {ρ ρ' : Map} {H H' : Heap}

theorem HR.none_of_ge (hr : HR L w ρ H) {b : Nat} (h : H.length ≤ b) : ρ b = none := by
  cases hb : ρ b with
  | none => rfl
  | some x => obtain ⟨c, base⟩ := x; have := (hr.dom b c base hb).1; omega

theorem HR.mk' (hr : HR L w ρ H) (e : Ext w ρ H w' ρ' H')
    (hdom : ∀ b c base, ρ' b = some (c, base) → b < H'.length ∧ c < w'.heap.size)
    (hinj : ∀ b b' c base base', ρ' b = some (c, base) → ρ' b' = some (c, base') → live H' b → live H' b' → b = b')
    (hblk : ∀ b c base x, ρ' b = some (c, base) → H'[b]? = some x → x ≠ .dead → (w'.heap[c]? = w.heap[c]? ∧ ρ b = some (c, base) ∧ H[b]? = some x) ∨ BR L w' ρ' (Own ρ' H') c base x) :
    HR L w' ρ' H' := by
  refine ⟨fun c hc => by rw [e.bar] at hc; have := hr.bar c hc; have := e.size; omega, hdom, hinj, fun b c base x hb hx => ?_⟩
  by_cases hd : x = .dead
  · subst hd; trivial
  · rcases hblk b c base x hb hx hd with ⟨hw, h0, h1⟩ | h
    · exact (hr.blk b c base x h0 h1).ext e hw
    · exact h

/-! ### The same heap -/
theorem ext_same (hos : w'.os = w.os) (ht : w'.tape = w.tape) (ho : w'.output = w.output) (hh : w'.heap = w.heap) : Ext w ρ H w' ρ H where
  os := hos
  tape := ht
  output := ho
  size := by rw [hh]; exact Nat.le_refl _
  keep _ _ _ := by rw [hh]
  shape _ cs _ fr h := ⟨cs, fr, by rw [hh]; exact h, rfl⟩
  ext _ _ h := h
  mine _ _ h := h
  bar := rfl
  ghost _ _ h := ⟨h, rfl⟩
  len := Nat.le_refl _
  dead _ h := h
theorem HR.same (hr : HR L w ρ H) (hos : w'.os = w.os) (ht : w'.tape = w.tape) (ho : w'.output = w.output) (hh : w'.heap = w.heap) : HR L w' ρ H :=
  hr.mk' (ext_same hos ht ho hh) (fun b c base h => by rw [hh]; exact hr.dom b c base h) hr.inj (fun b c base x hb hx _ => .inl ⟨by rw [hh], hb, hx⟩)

/-! ### A new block -/
theorem mine_new (hr : HR L w ρ H) {x : Blk} (hx : x ≠ .dead) (c : Nat) : Mine (upd ρ H.length (w.heap.size, 0)) (H ++ [x]) c ↔ (Mine ρ H c ∨ c = w.heap.size) := by
  constructor
  · rintro ⟨b, base, hb, hl⟩
    by_cases h : b = H.length
    · subst h
      rw [upd_same] at hb
      injection hb with hb
      injection hb with h1 h2
      exact .inr h1.symm
    · rw [upd_other _ _ h] at hb
      have hlt := (hr.dom b c base hb).1
      obtain ⟨y, hy, hd⟩ := hl
      rw [List.getElem?_append_left hlt] at hy
      exact .inl ⟨b, base, hb, y, hy, hd⟩
  · rintro (⟨b, base, hb, y, hy, hd⟩ | rfl)
    · have hlt := (hr.dom b c base hb).1
      exact ⟨b, base, by rw [upd_other _ _ (by omega)]; exact hb, y, by rw [List.getElem?_append_left hlt]; exact hy, hd⟩
    · exact ⟨H.length, 0, upd_same _ _ _, x, by simp, hx⟩
theorem ext_new (hr : HR L w ρ H) {x : Blk} (hx : x ≠ .dead) (o : Obj) (hos : w'.os = w.os) (ht : w'.tape = w.tape) (ho : w'.output = w.output) (hh : w'.heap = w.heap.push o) :
    Ext w ρ H w' (upd ρ H.length (w.heap.size, 0)) (H ++ [x]) where
  os := hos
  tape := ht
  output := ho
  size := by rw [hh]; simp
  keep c hc _ := by rw [hh, Array.getElem?_push_lt hc, Array.getElem?_eq_getElem hc]
  shape c cs ty fr h := by
    have hc : c < w.heap.size := (Array.getElem?_eq_some_iff.1 h).1
    exact ⟨cs, fr, by rw [hh, Array.getElem?_push_lt hc, ← Array.getElem?_eq_getElem hc]; exact h, rfl⟩
  ext b y hb := by
    obtain ⟨c, base⟩ := y
    have := (hr.dom b c base hb).1
    rw [upd_other _ _ (by omega)]; exact hb
  mine c hc h := by
    rcases (mine_new hr hx c).1 h with h | h
    · exact h
    · omega
  bar := rfl
  ghost b hb hn := ⟨by rw [upd_other _ _ (by omega)]; exact hn, by rw [List.getElem?_append_left hb]⟩
  len := by simp
  dead b hb := by
    have hlt : b < H.length := (List.getElem?_eq_some_iff.1 hb).1
    rw [List.getElem?_append_left hlt]; exact hb
theorem HR.new (hr : HR L w ρ H) {x : Blk} (hx : x ≠ .dead) (o : Obj) (hos : w'.os = w.os) (ht : w'.tape = w.tape) (ho : w'.output = w.output) (hh : w'.heap = w.heap.push o)
    (hb : BR L w' (upd ρ H.length (w.heap.size, 0)) (Own (upd ρ H.length (w.heap.size, 0)) (H ++ [x])) w.heap.size 0 x) :
    HR L w' (upd ρ H.length (w.heap.size, 0)) (H ++ [x]) := by
  refine hr.mk' (ext_new hr hx o hos ht ho hh) ?_ ?_ ?_
  · intro b c base h
    by_cases e : b = H.length
    · subst e; rw [upd_same] at h; injection h with h; injection h with h1 h2; rw [hh]; simp; omega
    · rw [upd_other _ _ e] at h; have := hr.dom b c base h; rw [hh]; simp; omega
  · intro b b' c base base' h h' hl hl'
    by_cases e : b = H.length
    · by_cases e' : b' = H.length
      · rw [e, e']
      · subst e; rw [upd_same] at h; injection h with h; injection h with h1 h2
        rw [upd_other _ _ e'] at h'; have := (hr.dom b' c base' h').2; omega
    · by_cases e' : b' = H.length
      · subst e'; rw [upd_same] at h'; injection h' with h'; injection h' with h1 h2
        rw [upd_other _ _ e] at h; have := (hr.dom b c base h).2; omega
      · rw [upd_other _ _ e] at h; rw [upd_other _ _ e'] at h'
        have h1 := (hr.dom b c base h).1; have h2 := (hr.dom b' c base' h').1
        obtain ⟨y, hy, hd⟩ := hl; obtain ⟨y', hy', hd'⟩ := hl'
        rw [List.getElem?_append_left h1] at hy; rw [List.getElem?_append_left h2] at hy'
        exact hr.inj b b' c base base' h h' ⟨y, hy, hd⟩ ⟨y', hy', hd'⟩
  · intro b c base y h hy hd
    by_cases e : b = H.length
    · subst e; rw [upd_same] at h; injection h with h; injection h with h1 h2
      subst h1; subst h2
      simp at hy; subst hy
      exact .inr hb
    · rw [upd_other _ _ e] at h
      have h1 := hr.dom b c base h
      rw [List.getElem?_append_left h1.1] at hy
      exact .inl ⟨by rw [hh, Array.getElem?_push_lt h1.2, Array.getElem?_eq_getElem h1.2], h, hy⟩

/-! ### A block that is written -/
theorem mine_set {b : Nat} {x : Blk} (hl : live H b) (hx : x ≠ .dead) (c : Nat) : Mine ρ (H.set b x) c ↔ Mine ρ H c := by
  have key : ∀ i, live (H.set b x) i ↔ live H i := by
    intro i
    unfold live
    by_cases e : i = b
    · subst e
      have := live_lt hl
      obtain ⟨y, hy, hd⟩ := hl
      simp [List.getElem?_set_self this, hx]
      exact ⟨y, hy, hd⟩
    · rw [List.getElem?_set_ne (by omega)]
  constructor
  · rintro ⟨i, base, h, hl⟩; exact ⟨i, base, h, (key i).1 hl⟩
  · rintro ⟨i, base, h, hl⟩; exact ⟨i, base, h, (key i).2 hl⟩
theorem own_set {b : Nat} {x : Blk} (hl : live H b) (hx : x ≠ .dead) (c : Nat) : Own ρ (H.set b x) c ↔ Own ρ H c := or_congr (mine_set hl hx c) Iff.rfl
theorem ext_set {b c base : Nat} {x : Blk} (hb : ρ b = some (c, base)) (hl : live H b) (hx : x ≠ .dead) (hos : w'.os = w.os) (ht : w'.tape = w.tape) (ho : w'.output = w.output)
    (hs : w'.heap.size = w.heap.size) (hk : ∀ k, k ≠ c → w'.heap[k]? = w.heap[k]?)
    (hsh : ∀ (cs : Array Value) (ty : TypeId) (fr : Nat × Nat), w.heap[c]? = some (Obj.cells cs ty fr) → ∃ (cs' : Array Value) (fr' : Nat × Nat), w'.heap[c]? = some (Obj.cells cs' ty fr') ∧ cs'.size = cs.size) :
    Ext w ρ H w' ρ (H.set b x) where
  os := hos
  tape := ht
  output := ho
  size := by omega
  keep k _ hn := hk k fun e => hn (e ▸ ⟨b, base, hb, hl⟩)
  shape k cs ty fr h := by
    by_cases e : k = c
    · subst e; exact hsh cs ty fr h
    · exact ⟨cs, fr, by rw [hk k e]; exact h, rfl⟩
  ext _ _ h := h
  mine k _ h := (mine_set hl hx k).1 h
  bar := rfl
  ghost i hi hn := ⟨hn, by
    have : i ≠ b := fun e => by subst e; rw [hn] at hb; cases hb
    rw [List.getElem?_set_ne (by omega)]⟩
  len := by simp
  dead i hi := by
    have : i ≠ b := fun e => by subst e; obtain ⟨y, hy, hd⟩ := hl; rw [hi] at hy; injection hy with hy; exact hd hy.symm
    rw [List.getElem?_set_ne (by omega)]; exact hi
theorem HR.set (hr : HR L w ρ H) {b c base : Nat} {x : Blk} (hb : ρ b = some (c, base)) (hl : live H b) (hx : x ≠ .dead) (e : Ext w ρ H w' ρ (H.set b x))
    (hs : w'.heap.size = w.heap.size) (hk : ∀ k, k ≠ c → w'.heap[k]? = w.heap[k]?) (hn : BR L w' ρ (Own ρ (H.set b x)) c base x) : HR L w' ρ (H.set b x) := by
  have key : ∀ i, live (H.set b x) i → live H i := by
    intro i hi
    by_cases e : i = b
    · subst e; exact hl
    · obtain ⟨y, hy, hd⟩ := hi; rw [List.getElem?_set_ne (by omega)] at hy; exact ⟨y, hy, hd⟩
  refine hr.mk' e ?_ ?_ ?_
  · intro i k bs h; have := hr.dom i k bs h; simp; omega
  · intro i j k bs bs' h h' hi hj; exact hr.inj i j k bs bs' h h' (key i hi) (key j hj)
  · intro i k bs y h hy hd
    by_cases e : i = b
    · subst e
      rw [hb] at h; injection h with h; injection h with h1 h2; subst h1; subst h2
      rw [List.getElem?_set_self (live_lt hl)] at hy; injection hy with hy; subst hy
      exact .inr hn
    · rw [List.getElem?_set_ne (by omega)] at hy
      refine .inl ⟨hk k fun e' => e ?_, h, hy⟩
      subst e'
      exact hr.inj i b k bs base h hb ⟨y, hy, hd⟩ hl

/-! ### A block that moves: its old number is dead -/
theorem live_move {b : Nat} {x : Blk} (hb : b < H.length) (i : Nat) : live (H.set b .dead ++ [x]) i → (i = H.length ∨ (i ≠ b ∧ live H i)) := by
  rintro ⟨y, hy, hd⟩
  by_cases e : i = H.length
  · exact .inl e
  · have hlt : i < H.length := by
      have := (List.getElem?_eq_some_iff.1 hy).1; simp at this; omega
    rw [List.getElem?_append_left (by simpa using hlt)] at hy
    by_cases e' : i = b
    · subst e'; rw [List.getElem?_set_self hlt] at hy; injection hy with hy; exact absurd hy.symm hd
    · rw [List.getElem?_set_ne (by omega)] at hy; exact .inr ⟨e', y, hy, hd⟩
theorem move_old {b : Nat} {x : Blk} {i : Nat} (hi : i < H.length) (hne : i ≠ b) : (H.set b .dead ++ [x])[i]? = H[i]? := by
  rw [List.getElem?_append_left (by simpa using hi), List.getElem?_set_ne (by omega)]
theorem ext_move (hr : HR L w ρ H) {b c base c' base' : Nat} {x : Blk} (hb : ρ b = some (c, base)) (hl : live H b) (hx : x ≠ .dead) (hos : w'.os = w.os) (ht : w'.tape = w.tape) (ho : w'.output = w.output)
    (hs : w.heap.size ≤ w'.heap.size) (hc' : c' = c ∨ w.heap.size ≤ c') (hk : ∀ k, k < w.heap.size → k ≠ c → w'.heap[k]? = w.heap[k]?)
    (hsh : ∀ (cs : Array Value) (ty : TypeId) (fr : Nat × Nat), w.heap[c]? = some (Obj.cells cs ty fr) → ∃ (cs' : Array Value) (fr' : Nat × Nat), w'.heap[c]? = some (Obj.cells cs' ty fr') ∧ cs'.size = cs.size) :
    Ext w ρ H w' (upd ρ H.length (c', base')) (H.set b .dead ++ [x]) where
  os := hos
  tape := ht
  output := ho
  size := hs
  keep k hk' hn := hk k hk' fun e => hn (e ▸ ⟨b, base, hb, hl⟩)
  shape k cs ty fr h := by
    by_cases e : k = c
    · subst e; exact hsh cs ty fr h
    · exact ⟨cs, fr, by rw [hk k (Array.getElem?_eq_some_iff.1 h).1 e]; exact h, rfl⟩
  ext i y hi := by
    obtain ⟨k, bs⟩ := y
    have := (hr.dom i k bs hi).1
    rw [upd_other _ _ (by omega)]; exact hi
  bar := rfl
  mine k hk' h := by
    obtain ⟨i, bs, hi, hli⟩ := h
    rcases live_move (live_lt hl) i hli with e | ⟨hne, hli⟩
    · subst e; rw [upd_same] at hi; injection hi with hi; injection hi with h1 h2
      rcases hc' with e | e
      · subst h1; subst e; exact ⟨b, base, hb, hl⟩
      · omega
    · have := live_lt hli
      rw [upd_other _ _ (by omega)] at hi
      exact ⟨i, bs, hi, hli⟩
  ghost i hi hn := by
    have hne : i ≠ b := fun e => by subst e; rw [hn] at hb; cases hb
    exact ⟨by rw [upd_other _ _ (by omega)]; exact hn, move_old hi hne⟩
  len := by simp
  dead i hi := by
    have hlt : i < H.length := (List.getElem?_eq_some_iff.1 hi).1
    by_cases e : i = b
    · subst e; rw [List.getElem?_append_left (by simpa using hlt), List.getElem?_set_self hlt]
    · rw [move_old hlt e]; exact hi
theorem HR.move (hr : HR L w ρ H) {b c base c' base' : Nat} {x : Blk} (hb : ρ b = some (c, base)) (hl : live H b) (e : Ext w ρ H w' (upd ρ H.length (c', base')) (H.set b .dead ++ [x]))
    (hs : w.heap.size ≤ w'.heap.size) (hc' : c' = c ∨ w.heap.size ≤ c') (hlt : c' < w'.heap.size) (hk : ∀ k, k < w.heap.size → k ≠ c → w'.heap[k]? = w.heap[k]?)
    (hn : BR L w' (upd ρ H.length (c', base')) (Own (upd ρ H.length (c', base')) (H.set b .dead ++ [x])) c' base' x) : HR L w' (upd ρ H.length (c', base')) (H.set b .dead ++ [x]) := by
  have hbl := live_lt hl
  have other : ∀ i k bs, upd ρ H.length (c', base') i = some (k, bs) → i ≠ H.length → live (H.set b .dead ++ [x]) i → i ≠ b ∧ live H i ∧ ρ i = some (k, bs) ∧ k ≠ c' := by
    intro i k bs hi hne hli
    rw [upd_other _ _ hne] at hi
    rcases live_move hbl i hli with e | ⟨h1, h2⟩
    · exact absurd e hne
    · refine ⟨h1, h2, hi, fun e => ?_⟩
      have := (hr.dom i k bs hi).2
      rcases hc' with e' | e'
      · exact h1 (hr.inj i b k bs base hi (by rw [hb, e, e']) h2 hl)
      · omega
  refine hr.mk' e ?_ ?_ ?_
  · intro i k bs h
    by_cases e : i = H.length
    · subst e; rw [upd_same] at h; injection h with h; injection h with h1 h2; simp; omega
    · rw [upd_other _ _ e] at h; have := hr.dom i k bs h; simp; omega
  · intro i j k bs bs' h h' hi hj
    by_cases e1 : i = H.length
    · by_cases e2 : j = H.length
      · rw [e1, e2]
      · have := other j k bs' h' e2 hj
        subst e1; rw [upd_same] at h; injection h with h; injection h with h1 h2
        exact absurd h1.symm this.2.2.2
    · by_cases e2 : j = H.length
      · have := other i k bs h e1 hi
        subst e2; rw [upd_same] at h'; injection h' with h'; injection h' with h1 h2
        exact absurd h1.symm this.2.2.2
      · have a := other i k bs h e1 hi
        have b := other j k bs' h' e2 hj
        exact hr.inj i j k bs bs' a.2.2.1 b.2.2.1 a.2.1 b.2.1
  · intro i k bs y h hy hd
    by_cases e1 : i = H.length
    · subst e1; rw [upd_same] at h; injection h with h; injection h with h1 h2
      subst h1; subst h2
      rw [List.getElem?_append_right (by simp)] at hy; simp at hy; subst hy
      exact .inr hn
    · have a := other i k bs h e1 ⟨y, hy, hd⟩
      have hil := live_lt a.2.1
      have hkd := (hr.dom i k bs a.2.2.1).2
      rw [move_old hil a.1] at hy
      refine .inl ⟨hk k hkd fun e => a.1 ?_, a.2.2.1, hy⟩
      subst e
      exact hr.inj i b k bs base a.2.2.1 hb a.2.1 hl
end
end Go.AM

/- When an operation of the A-machine stands for one of the program's: operands, types, all checked by a program that the kernel runs. -/
namespace Go.AM
set_option linter.unusedVariables false

/-! ### Constants and operands -/
def mV1 : Value → AV → Bool
  | .bool a, .bool b => a == b
  | .int k a, .int l b => decide (k = l) && decide (a = b)
  | .string s, .str t => decide (s.data.toList = t)
  | .pointer none, .nilp => true
  | .slice none n c, .nils => n == 0 && c == 0
  | .map none, .nilm => true
  | .nilFunc, .nilf => true
  | .nilIface, .nili => true
  | _, _ => false
def mVL : List Value → List AV → Bool
  | [], [] => true
  | x :: r, v :: q => mV1 x v && mVL r q
  | _, _ => false
def mV : Value → AV → Bool
  | .agg cs, .agg vs => mVL cs.toList vs
  | .tuple cs, .tup vs => cs.size == 0 && vs.isEmpty
  | x, v => mV1 x v
section
variable {L : Link} {w : World} {ρ : Map} {own : Nat → Prop}
theorem mV1_ok {x : Value} {v : AV} (h : mV1 x v = true) : VR L w ρ own v x ∧ v.isCell = true := by
  unfold mV1 at h
  split at h
  · simp at h; subst h; exact ⟨.bool _, rfl⟩
  · simp at h; obtain ⟨rfl, rfl⟩ := h; exact ⟨.int _ _, rfl⟩
  · simp at h; subst h; exact ⟨.str _, rfl⟩
  · exact ⟨.nilp, rfl⟩
  · simp at h; obtain ⟨rfl, rfl⟩ := h; exact ⟨.nils, rfl⟩
  · exact ⟨.nilm, rfl⟩
  · exact ⟨.nilf, rfl⟩
  · exact ⟨.nili, rfl⟩
  · cases h
theorem mVL_ok : ∀ {xs : List Value} {vs : List AV}, mVL xs vs = true → VRs L w ρ own vs xs ∧ ∀ v ∈ vs, v.isCell = true
  | [], [], _ => ⟨.nil, by simp⟩
  | x :: r, v :: q, h => by
    simp only [mVL, Bool.and_eq_true] at h
    obtain ⟨h1, h2⟩ := mV1_ok (L := L) (w := w) (ρ := ρ) (own := own) h.1
    obtain ⟨h3, h4⟩ := mVL_ok h.2
    exact ⟨.cons h1 h3, by simpa using ⟨h2, h4⟩⟩
  | [], _ :: _, h => by simp [mVL] at h
  | _ :: _, [], h => by simp [mVL] at h
theorem mV_ok {x : Value} {v : AV} (h : mV x v = true) : VR L w ρ own v x := by
  unfold mV at h
  split at h
  · obtain ⟨h1, h2⟩ := mVL_ok (L := L) (w := w) (ρ := ρ) (own := own) h
    simpa using VR.agg h1 h2
  · simp at h
    obtain ⟨h1, h2⟩ := h
    subst h1; subst h2
    exact VR.undef
  · exact (mV1_ok h).1
end

section
variable (L : Link) (E : Env)
def mX : Operand → RX → Bool
  | .tmp t, .t n => t == n
  | .const v, .c a => mV v a
  | .func f, .c (.fn g []) => L.fn g == f
  | .global g, .glob g' => g == g' && (E.glob g').isSome
  | _, _ => false
def mXs : List Operand → List RX → Bool
  | [], [] => true
  | x :: r, y :: q => mX L E x y && mXs r q
  | _, _ => false
def mXo : Option Operand → Option RX → Bool
  | none, none => true
  | some x, some y => mX L E x y
  | _, _ => false
end

/-- What is known of a frame: the A-machine's slots and the act's; the program's variables. -/
structure SR (L : Link) (E : Env) (w : World) (ρ : Map) (H : Heap) (s : List AV) (a : Act) : Prop where
  hr : HR L w ρ H
  vs : VRs L w ρ (Own ρ H) s a.tmps.toList
  gl : ∀ g cs, E.glob g = some cs → VR L w ρ (Own ρ H) (.dptr cs) (.pointer (some ⟨g, 0, none⟩))

section
variable {L : Link} {E : Env} {w : World} {ρ : Map} {H : Heap} {s : List AV} {a : Act}
theorem SR.ev (h : SR L E w ρ H s a) {x : Operand} {y : RX} (m : mX L E x y = true) : VR L w ρ (Own ρ H) (y.ev E s) (a.eval x) := by
  unfold mX at m
  split at m
  · simp at m; subst m
    have := h.vs.getD (d := undef) (e := Go.undef) (by assumption) VR.undef
    simpa [RX.ev, Act.eval, Array.getD_eq_getD_getElem?, List.getD_eq_getElem?_getD] using this
  · simpa [RX.ev, Act.eval] using mV_ok m
  · simp at m; subst m
    simpa [RX.ev, Act.eval] using VR.fn (L := L) (w := w) (ρ := ρ) (own := Own ρ H) VRs.nil
  · simp at m; obtain ⟨rfl, m⟩ := m
    obtain ⟨cs, hc⟩ := Option.isSome_iff_exists.1 m
    simpa [RX.ev, Act.eval, hc] using h.gl _ cs hc
  · cases m
theorem SR.evs (h : SR L E w ρ H s a) : ∀ {xs : List Operand} {ys : List RX}, mXs L E xs ys = true → VRs L w ρ (Own ρ H) (ys.map (RX.ev E s)) (xs.map a.eval)
  | [], [], _ => .nil
  | x :: r, y :: q, m => by
    simp only [mXs, Bool.and_eq_true] at m
    exact .cons (h.ev m.1) (h.evs m.2)
  | [], _ :: _, m => by simp [mXs] at m
  | _ :: _, [], m => by simp [mXs] at m
theorem SR.put (h : SR L E w ρ H s a) {w' : World} {ρ' : Map} {H' : Heap} (e : Ext w ρ H w' ρ' H') (hr : HR L w' ρ' H') {v : AV} {x : Value} (hv : VR L w' ρ' (Own ρ' H') v x) (d : Option Nat) :
    SR L E w' ρ' H' (putA s d v) (a.put d x) := by
  refine ⟨hr, ?_, fun g cs hg => (h.gl g cs hg).ext e⟩
  have h1 := h.vs.ext e
  cases d with
  | none => exact h1
  | some d => simpa [putA, Act.put] using h1.set d hv
end

/-! ### Types -/
/-- The shape of a type's variables: none: one cell; some n: a struct's or an array's n cells. -/
def shOk (P : Program) (t : TypeId) (sh : Option Nat) : Bool :=
  match P.underlying t, P.info? t with
  | some (.struct _), some i | some (.array _ _), some i => decide (sh = some i.size)
  | some _, some i => decide (sh = none) && i.size == 1
  | _, _ => false
theorem shOk_run {P : Program} {t : TypeId} {sh : Option Nat} (h : shOk P t sh = true) (w : World) :
    (isAgg t).run P w = .ok sh.isSome w ∧ (sizeOf t).run P w = .ok (szOf sh) w ∧ P.cellsOf t = szOf sh := by
  unfold shOk at h
  split at h
  · rename_i hu hi; simp at h; subst h; simp [isAgg, underlying, sizeOf, typeInfo, hu, hi, szOf, Program.cellsOf]
  · rename_i hu hi; simp at h; subst h; simp [isAgg, underlying, sizeOf, typeInfo, hu, hi, szOf, Program.cellsOf]
  · rename_i d i h1 h2 hu hi
    simp at h
    obtain ⟨rfl, hs⟩ := h
    refine ⟨?_, ?_, ?_⟩
    · cases d <;> simp_all [isAgg, underlying]
    · simp [sizeOf, typeInfo, hi, hs, szOf]
    · simp [Program.cellsOf, hi, hs, szOf]
  · cases h
def sizeOk (P : Program) (t : TypeId) (n : Nat) : Bool := match P.info? t with | some i => i.size == n | none => false
theorem sizeOk_run {P : Program} {t : TypeId} {n : Nat} (h : sizeOk P t n = true) (w : World) : (sizeOf t).run P w = .ok n w := by
  unfold sizeOk at h
  split at h
  · rename_i i hi; simp at h; simp [sizeOf, typeInfo, hi, h]
  · cases h
theorem run_underlying1 {P : Program} {t : TypeId} {d : TypeDesc} (h : P.underlying t = some d) (w : World) : (underlying t).run P w = .ok d w := by
  simp [underlying, h]

/-! ### Memory that is read -/
theorem cell_run {P : Program} {w : World} {a : Addr} {v : Value} (h : w.cell? a = some v) : (load a).run P w = .ok v w := by simp [h]
section
variable {L : Link} {w : World} {ρ : Map} {own : Nat → Prop}
/-- A variable whose cells are known is loaded. -/
theorem run_loadVar {t : TypeId} {sh : Option Nat} (ht : shOk L.P t sh = true) {cs : List AV} {vals : List Value} {a : Addr} {v : AV} (hv : VRs L w ρ own cs vals) (hi : ∀ c ∈ cs, c.isCell = true)
    (hc : ∀ j x, vals[j]? = some x → w.cell? (a.add j) = some x) (hm : mkv sh cs = some v) : ∃ x, (loadVar t a).run L.P w = .ok x w ∧ VR L w ρ own v x := by
  obtain ⟨h1, h2, _⟩ := shOk_run ht w
  cases sh with
  | none =>
    simp only [mkv] at hm
    cases hv with
    | nil => simp at hm
    | @cons v' r x q hx hr =>
      simp at hm
      subst hm
      have h0 := hc 0 x (by simp)
      have : a.add 0 = a := by simp [Addr.add]
      rw [this] at h0
      refine ⟨x, ?_, hx⟩
      simp [loadVar, h1, h0]
  | some n =>
    simp only [mkv] at hm
    split at hm
    · rename_i hn
      injection hm with hm; subst hm
      have hl := hv.length
      have hlen : (vals.take n).length = n := by simp; omega
      have hrun := run_loadCells_list (P := L.P) w a (vals.take n) (fun j x hx => by
        rw [List.getElem?_take] at hx
        split at hx
        · exact hc j x hx
        · cases hx)
      rw [hlen] at hrun
      refine ⟨.agg (vals.take n).toArray, ?_, .agg (hv.take n) fun c hcm => hi c (List.mem_of_mem_take hcm)⟩
      simp [loadVar, h1, h2, szOf, hrun]
    · cases hm
theorem run_loadAt {t : TypeId} {a : Addr} {x : Value} {P : Program} {w : World} (h : (loadVar t a).run P w = .ok x w) : (Instr.loadAt t (.pointer (some a))).run P w = .ok x w := by
  simp [Instr.loadAt, Instr.sureAddr, h]
end

/-! ### Blocks -/
section
variable {L : Link} {w : World} {ρ : Map} {H : Heap}
/-- The cells that can be read of a block of the run's own, as the world has them. -/
theorem HR.read (hr : HR L w ρ H) {b c base : Nat} (hb : ρ b = some (c, base)) {cs : List AV} (hx : H[b]? = some (.cells cs) ∨ ∃ sz tag fz, H[b]? = some (.arr sz tag fz cs)) :
    ∃ vals : List Value, VRs L w ρ (Own ρ H) cs vals ∧ (∀ c' ∈ cs, c'.isCell = true) ∧ ∀ j x, vals[j]? = some x → w.cell? ⟨c, base + j, none⟩ = some x := by
  rcases hx with hx | ⟨sz, tag, fz, hx⟩
  · obtain ⟨h0, vals, ty, fr, hw, hv, _, hi⟩ := hr.blk b c base _ hb hx
    subst h0
    refine ⟨vals.toList, hv, hi, fun j x hj => ?_⟩
    rw [cell_of_row w c _ vals ty fr hw]
    simpa using hj
  · obtain ⟨full, ty, fr, hw, hl, hv, _, _, hi⟩ := hr.blk b c base _ hb hx
    refine ⟨_, hv, hi, fun j x hj => ?_⟩
    rw [cell_of_row w c _ full ty fr hw]
    rw [List.getElem?_take] at hj
    split at hj
    · rw [List.getElem?_drop] at hj; simpa using hj
    · cases hj
theorem VRs.cellAt {own : Nat → Prop} {vals : List Value} {a : Addr} (hc : ∀ j, j < vals.length → w.cell? (a.add j) = vals[j]?) : ∀ j x, vals[j]? = some x → w.cell? (a.add j) = some x := by
  intro j x hx
  have hj : j < vals.length := (List.getElem?_eq_some_iff.1 hx).1
  rw [hc j hj, hx]
theorem load_ok (hr : HR L w ρ H) {t : TypeId} {sh : Option Nat} (ht : shOk L.P t sh = true) {av v : AV} {x : Value} (ha : VR L w ρ (Own ρ H) av x) (hl : loadA sh av H = some v) :
    ∃ y, (Instr.loadAt t x).run L.P w = .ok y w ∧ VR L w ρ (Own ρ H) v y := by
  unfold loadA at hl
  split at hl
  · cases ha with
    | dptr hv hi hc ho =>
      obtain ⟨y, h1, h2⟩ := run_loadVar ht hv hi (VRs.cellAt (own := Own ρ H) hc) hl
      exact ⟨y, run_loadAt h1, h2⟩
  · rename_i b off
    cases ha with
    | @ptr _ _ c base hb =>
      have key : ∀ cs, (H[b]? = some (.cells cs) ∨ ∃ sz tag fz, H[b]? = some (.arr sz tag fz cs)) → mkv sh (cs.drop off) = some v → ∃ y, (Instr.loadAt t (.pointer (some ⟨c, base + off, none⟩))).run L.P w = .ok y w ∧ VR L w ρ (Own ρ H) v y := by
        intro cs hx hm
        obtain ⟨vals, hv, hi, hc⟩ := hr.read hb hx
        obtain ⟨y, h1, h2⟩ := run_loadVar (a := ⟨c, base + off, none⟩) ht (hv.drop off) (fun c hcm => hi c (List.mem_of_mem_drop hcm)) (fun j x hj => by
          rw [List.getElem?_drop] at hj
          rw [Addr.plain_add, Nat.add_assoc]
          exact hc _ _ hj) hm
        exact ⟨y, run_loadAt h1, h2⟩
      split at hl
      · rename_i cs hx; exact key cs (.inl hx) hl
      · rename_i cs hx; exact key cs (.inr ⟨_, _, _, hx⟩) hl
      · cases hl
  · cases hl
end
end Go.AM

/- Operations that only build values. -/
namespace Go.AM
set_option linter.unusedVariables false

/-! ### What an operation comes to -/
def Runs (L : Link) (w : World) (ρ : Map) (H : Heap) (r : Result Next) (v : AV) (H' : Heap) : Prop :=
  ∃ x w' ρ', (r = .ok (.value x) w' ∨ (r = .ok .skip w' ∧ x = Go.undef)) ∧ Ext w ρ H w' ρ' H' ∧ HR L w' ρ' H' ∧ VR L w' ρ' (Own ρ' H') v x
section
variable {L : Link} {w : World} {ρ : Map} {H : Heap}
theorem Runs.pure (hr : HR L w ρ H) {r : Result Next} {x : Value} {v : AV} (h : r = .ok (.value x) w) (hv : VR L w ρ (Own ρ H) v x) : Runs L w ρ H r v H :=
  ⟨x, w, ρ, .inl h, Ext.refl _ _ _, hr, hv⟩
theorem exec_v {P : Program} {s : Sem Value} {w w' : World} {x : Value} (h : s.run P w = .ok x w') : (do Pure.pure (Next.value (← s)) : Sem Next).run P w = .ok (.value x) w' := by simp [h]
end

/-! ### Parts -/
theorem foldl_set (off : Nat) : ∀ (l : List Value) (j : Nat) (cells : Array Value), off + j + l.length ≤ cells.size →
    ((l.zipIdx j).foldl (fun cs (p : Value × Nat) => cs.setIfInBounds (off + p.2) p.1) cells).toList = cells.toList.take (off + j) ++ l ++ cells.toList.drop (off + j + l.length)
  | [], j, cells, _ => by simp
  | v :: r, j, cells, h => by
    have hlt : off + j < cells.size := by simp at h; omega
    simp only [List.zipIdx_cons, List.foldl_cons]
    rw [foldl_set off r (j + 1) (cells.setIfInBounds (off + j) v) (by simp at h ⊢; omega)]
    have e := list_seg_step cells.toList (off + j) v r (by simp at h ⊢; omega)
    simpa [Array.toList_setIfInBounds, Nat.add_assoc] using e
theorem foldl_zipIdx (off : Nat) (v : Value) (cells : Array Value) (h : off + v.cells.size ≤ cells.size) :
    (v.cells.zipIdx.foldl (fun cs (p : Value × Nat) => cs.setIfInBounds (off + p.2) p.1) cells).toList = cells.toList.take off ++ v.cells.toList ++ cells.toList.drop (off + v.cells.size) := by
  have := foldl_set off v.cells.toList 0 cells (by simpa using h)
  rw [← Array.foldl_toList, Array.toList_zipIdx]
  simpa using this
section
variable {L : Link} {w : World} {ρ : Map} {own : Nat → Prop}
theorem VRs.wr {cs vs : List AV} {xs ys : List Value} (h : VRs L w ρ own cs xs) (k : VRs L w ρ own vs ys) (off : Nat) : VRs L w ρ own (wr cs off vs) (xs.take off ++ ys ++ xs.drop (off + ys.length)) := by
  unfold AM.wr
  rw [k.length]
  exact ((h.take off).append k).append (h.drop _)
theorem wr_length {cs vs : List AV} {off : Nat} (h : off + vs.length ≤ cs.length) : (AM.wr cs off vs).length = cs.length := by
  unfold AM.wr; simp; omega
theorem wr_cell {cs vs : List AV} {off : Nat} (h : ∀ v ∈ cs, v.isCell = true) (k : ∀ v ∈ vs, v.isCell = true) : ∀ v ∈ AM.wr cs off vs, v.isCell = true := by
  intro v hv
  unfold AM.wr at hv
  simp only [List.mem_append] at hv
  rcases hv with (hv | hv) | hv
  · exact h v (List.mem_of_mem_take hv)
  · exact k v hv
  · exact h v (List.mem_of_mem_drop hv)
/-- A part of the program's and one of the A-machine's. -/
inductive Parts (L : Link) (w : World) (ρ : Map) (own : Nat → Prop) (p : Nat → Option (Nat × Nat)) : List (Nat × Value) → List (Nat × Nat × AV) → Prop
  | nil : Parts L w ρ own p [] []
  | cons {i off size : Nat} {x : Value} {v : AV} {r : List (Nat × Value)} {q : List (Nat × Nat × AV)} : p i = some (off, size) → VR L w ρ own v x → Parts L w ρ own p r q → Parts L w ρ own p ((i, x) :: r) ((off, size, v) :: q)
theorem fill_ok {p : Nat → Option (Nat × Nat)} : ∀ {parts : List (Nat × Value)} {aps : List (Nat × Nat × AV)}, Parts L w ρ own p parts aps → ∀ {cs cs' : List AV} {cells : Array Value}, VRs L w ρ own cs cells.toList → (∀ v ∈ cs, v.isCell = true) →
    fillA cs aps = some cs' → ∃ cells', Instr.fill p cells parts = some cells' ∧ VRs L w ρ own cs' cells'.toList ∧ (∀ v ∈ cs', v.isCell = true)
  | _, _, .nil, cs, cs', cells, hv, hi, hf => by
    simp only [fillA] at hf
    injection hf with hf; subst hf
    exact ⟨cells, rfl, hv, hi⟩
  | _, _, .cons (off := off) (size := size) (x := x) (v := v) hp hx hr, cs, cs', cells, hv, hi, hf => by
    simp only [fillA] at hf
    split at hf
    · rename_i hc
      obtain ⟨h1, h2, h3⟩ := hc
      have hl := hx.cells.length
      have hlc := hv.length
      simp only [Array.length_toList] at hl hlc
      have hle : off + x.cells.size ≤ cells.size := by omega
      have hw := hv.wr hx.cells off
      have hfold := foldl_zipIdx off x cells hle
      rw [Array.length_toList] at hw
      rw [← hfold] at hw
      obtain ⟨cells', h4, h5, h6⟩ := fill_ok hr hw (wr_cell hi (by simpa using h3)) hf
      refine ⟨cells', ?_, h5, h6⟩
      have hs : ¬ (x.cells.size ≠ size) := by omega
      have hs2 : ¬ (off + x.cells.size > cells.size) := by omega
      simp only [Instr.fill, hp]
      simpa [hs, hs2] using h4
    · cases hf
end

/-! ### The parts of a literal, checked -/
section
variable (L : Link) (E : Env)
def mParts (p : Nat → Option (Nat × Nat)) : List (Nat × Operand) → List (Nat × Nat × RX) → Bool
  | [], [] => true
  | (i, x) :: r, (off, size, y) :: q => decide (p i = some (off, size)) && mX L E x y && mParts p r q
  | _, _ => false
end
theorem mParts_ok {L : Link} {E : Env} {w : World} {ρ : Map} {H : Heap} {s : List AV} {a : Act} (hs : SR L E w ρ H s a) {p : Nat → Option (Nat × Nat)} :
    ∀ {ps : List (Nat × Operand)} {qs : List (Nat × Nat × RX)}, mParts L E p ps qs = true → Parts L w ρ (Own ρ H) p (ps.map fun (i, x) => (i, a.eval x)) (evParts E s qs)
  | [], [], _ => .nil
  | (i, x) :: r, (off, size, y) :: q, m => by
    simp only [mParts, Bool.and_eq_true, decide_eq_true_eq] at m
    exact .cons m.1.1 (hs.ev m.1.2) (mParts_ok hs m.2)
  | [], _ :: _, m => by simp [mParts] at m
  | _ :: _, [], m => by simp [mParts] at m

def placesOf (P : Program) (fs : List Field) : Option (List (Nat × Nat)) := fs.mapM fun f => (P.info? f.type).map fun i => (f.offset, i.size)
/-- A literal's type: its zero cells and where its parts lie. -/
def mBuild (L : Link) (E : Env) (t : TypeId) (zero : List AV) (ps : List (Nat × Operand)) (qs : List (Nat × Nat × RX)) : Bool :=
  match L.P.info? t, L.P.underlying t with
  | some it, some (.array _ e) =>
    match it.zero, L.P.info? e with
    | some (.agg z), some ie => mVL z.toList zero && mParts L E (fun i => some (i * ie.size, ie.size)) ps qs
    | _, _ => false
  | some it, some (.struct fields) =>
    match it.zero, placesOf L.P fields.toList with
    | some (.agg z), some places => mVL z.toList zero && mParts L E (places.toArray[·]?) ps qs
    | _, _ => false
  | _, _ => false
theorem build_ok {L : Link} {E : Env} {w : World} {ρ : Map} {H : Heap} {s : List AV} {a : Act} (hs : SR L E w ρ H s a) {t : TypeId} {zero cs : List AV} {ps : Array (Nat × Operand)} {qs : List (Nat × Nat × RX)}
    (m : mBuild L E t zero ps.toList qs = true) (hf : fillA zero (evParts E s qs) = some cs) : ∃ x, (Instr.build t (ps.map fun (i, x) => (i, a.eval x))).run L.P w = .ok x w ∧ VR L w ρ (Own ρ H) (.agg cs) x := by
  have key : ∃ cells, L.P.built t (ps.map fun (i, x) => (i, a.eval x)).toList = some cells ∧ VRs L w ρ (Own ρ H) cs cells.toList ∧ ∀ v ∈ cs, v.isCell = true := by
    unfold mBuild at m
    unfold Program.built
    split at m
    · rename_i it n e hi hu
      split at m
      · rename_i z ie hz hie
        simp only [Bool.and_eq_true] at m
        obtain ⟨h1, h2⟩ := mVL_ok (L := L) (w := w) (ρ := ρ) (own := Own ρ H) m.1
        obtain ⟨cells, h3, h4, h5⟩ := fill_ok (mParts_ok hs m.2) h1 h2 hf
        simp only [hi, hu, hz, hie]
        exact ⟨cells, by simpa [Value.cells] using h3, h4, h5⟩
      · cases m
    · rename_i it fields hi hu
      split at m
      · rename_i z places hz hpl
        simp only [Bool.and_eq_true] at m
        obtain ⟨h1, h2⟩ := mVL_ok (L := L) (w := w) (ρ := ρ) (own := Own ρ H) m.1
        obtain ⟨cells, h3, h4, h5⟩ := fill_ok (mParts_ok hs m.2) h1 h2 hf
        unfold placesOf at hpl
        simp only [hi, hu, hz, hpl]
        exact ⟨cells, by simpa [Value.cells] using h3, h4, h5⟩
      · cases m
    · cases m
  obtain ⟨cells, h1, h2, h3⟩ := key
  refine ⟨_, run_build w t _ cells h1, ?_⟩
  have := VR.agg h2 h3
  simpa using this

/-! ### Slices' literals -/
theorem repC_len (z : List AV) (n : Nat) : (repC z n).length = n * z.length := by
  induction n with
  | zero => simp [repC]
  | succ n ih => simp [repC, ih, Nat.succ_mul, Nat.add_comm]
theorem rep_range (z : Array Value) : ∀ n, (List.range (n * z.size)).map (fun i => z[i % z.size]!) = (List.replicate n z.toList).flatten
  | 0 => by simp
  | n + 1 => by
    have ih := rep_range z n
    rw [List.replicate_succ, List.flatten_cons, ← ih, Nat.succ_mul, Nat.add_comm, List.range_add, List.map_append, List.map_map]
    congr 1
    · apply List.ext_getElem?
      intro i
      by_cases h : i < z.size
      · simp [h, Nat.mod_eq_of_lt h]
      · simp [h]
    · apply List.map_congr_left
      intro i _
      simp
theorem repC_VRs {L : Link} {w : World} {ρ : Map} {own : Nat → Prop} {zero : List AV} {z : List Value} (h : VRs L w ρ own zero z) : ∀ n, VRs L w ρ own (repC zero n) (List.replicate n z).flatten
  | 0 => .nil
  | n + 1 => by simpa [repC, List.replicate_succ] using h.append (repC_VRs h n)
theorem repC_cell {zero : List AV} (h : ∀ v ∈ zero, v.isCell = true) : ∀ n, ∀ v ∈ repC zero n, v.isCell = true
  | 0, v, hv => by simp [repC] at hv
  | n + 1, v, hv => by
    simp only [repC, List.mem_append] at hv
    rcases hv with hv | hv
    · exact h v hv
    · exact repC_cell h n v hv

/-- An element type: its shape, whether it is a byte, its zero cells. -/
def elemOk (P : Program) (e : TypeId) (sh : Option Nat) (tag : Nat) : Bool :=
  shOk P e sh && (tag != 1 || (match P.underlying e with | some (.int .u8) => true | _ => false))
def zeroOk (P : Program) (e : TypeId) (zero : List AV) : Bool :=
  match P.info? e with
  | some i => (match i.zero with | some z => mVL z.cells.toList zero && z.cells.size == i.size && zero.length == i.size | none => false)
  | none => false
def sliceOf (P : Program) (t : TypeId) : Option TypeId := match P.underlying t with | some (.slice e) => some e | _ => none
theorem sliceOf_ok {P : Program} {t e : TypeId} (h : sliceOf P t = some e) : P.underlying t = some (.slice e) := by
  unfold sliceOf at h
  split at h
  · rename_i e' hu; injection h with h; subst h; exact hu
  · cases h
theorem shOk_bytes {P : Program} {e : TypeId} {sh : Option Nat} (h : shOk P e sh = true) (hu : P.underlying e = some (.int .u8)) : szOf sh = 1 := by
  unfold shOk at h
  split at h <;> simp_all [szOf]
theorem elemOk_tag {P : Program} {e : TypeId} {sh : Option Nat} {tag : Nat} (h : elemOk P e sh tag = true) : shOk P e sh = true ∧ (tag = 1 → szOf sh = 1 ∧ P.underlying e = some (.int .u8) ∧ P.cellsOf e = 1) := by
  unfold elemOk at h
  simp only [Bool.and_eq_true, Bool.or_eq_true] at h
  refine ⟨h.1, fun ht => ?_⟩
  have hu : P.underlying e = some (.int .u8) := by
    rcases h.2 with h2 | h2
    · simp [ht] at h2
    · split at h2
      · assumption
      · cases h2
  have := shOk_bytes h.1 hu
  exact ⟨this, hu, (shOk_run h.1 default).2.2.trans this⟩

theorem heap_push_size (w : World) (o : Obj) : ({ w with heap := w.heap.push o } : World).heap[w.heap.size]? = some o := by simp
/-- A new block, its value and all that is told of it. -/
theorem Runs.new {L : Link} {w : World} {ρ : Map} {H : Heap} (hr : HR L w ρ H) {r : Result Next} {x : Value} {v : AV} {blk : Blk} (hx : blk ≠ .dead) (o : Obj) (w' : World) (hos : w'.os = w.os) (ht : w'.tape = w.tape) (ho : w'.output = w.output) (hh : w'.heap = w.heap.push o)
    (h : r = .ok (.value x) w')
    (hb : ∀ ρ' H', Ext w ρ H w' ρ' H' → BR L w' ρ' (Own ρ' H') w.heap.size 0 blk) (hv : ∀ ρ' own, ρ' H.length = some (w.heap.size, 0) → VR L w' ρ' own v x) : Runs L w ρ H r v (H ++ [blk]) :=
  have e := ext_new hr hx o hos ht ho hh
  ⟨x, w', _, .inl h, e, hr.new hx o hos ht ho hh (hb _ _ e), hv _ _ (upd_same _ _ _)⟩

/-- A run that makes a block, its number left open. -/
def NewS (L : Link) (w : World) (ρ : Map) (H : Heap) (r : Result Next) (blk : Blk) (mk : Nat → AV) : Prop :=
  ∃ x o, r = .ok (.value x) { w with heap := w.heap.push o } ∧ blk ≠ .dead ∧ (∀ ρ' H', ExtC w ρ H { w with heap := w.heap.push o } ρ' H' → BR L { w with heap := w.heap.push o } ρ' (Own ρ' H') w.heap.size 0 blk) ∧
    (∀ ρ' own b, ρ' b = some (w.heap.size, 0) → VR L { w with heap := w.heap.push o } ρ' own (mk b) x)
theorem NewS.intro {L : Link} {w : World} {ρ : Map} {H : Heap} {r : Result Next} {x : Value} {mk : Nat → AV} {blk : Blk} (hx : blk ≠ .dead) (o : Obj) (h : r = .ok (.value x) { w with heap := w.heap.push o })
    (hb : ∀ ρ' H', ExtC w ρ H { w with heap := w.heap.push o } ρ' H' → BR L { w with heap := w.heap.push o } ρ' (Own ρ' H') w.heap.size 0 blk)
    (hv : ∀ ρ' own b, ρ' b = some (w.heap.size, 0) → VR L { w with heap := w.heap.push o } ρ' own (mk b) x) : NewS L w ρ H r blk mk := ⟨x, o, h, hx, hb, hv⟩
theorem NewS.runs {L : Link} {w : World} {ρ : Map} {H : Heap} {r : Result Next} {blk : Blk} {mk : Nat → AV} (h : NewS L w ρ H r blk mk) (hr : HR L w ρ H) : Runs L w ρ H r (mk H.length) (H ++ [blk]) := by
  obtain ⟨x, o, h, hx, hb, hv⟩ := h
  exact Runs.new hr hx o { w with heap := w.heap.push o } rfl rfl rfl rfl h (fun ρ' H' e => hb ρ' H' e.toC) fun ρ' own h => hv ρ' own _ h

theorem box_new {L : Link} {w : World} {ρ : Map} {H : Heap} {t : TypeId} {v : AV} {x : Value} (hv : VR L w ρ (Own ρ H) v x) (hi : v.cells.all AV.isCell = true) {r : Result Next}
    (h : r = ((do Pure.pure (Next.value (← (do Pure.pure (.pointer (some (← newVar t x))) : Sem Value))) : Sem Next).run L.P w)) : NewS L w ρ H r (.cells v.cells) (fun b => .ptr b 0) := by
  refine NewS.intro (x := .pointer (some ⟨w.heap.size, 0, none⟩)) (by simp) (.cells x.cells t) ?_ ?_ ?_
  · subst h; simp [newVar, newRow]
  · intro ρ' H' e
    exact ⟨rfl, x.cells, t, (0, 0), heap_push_size w _, hv.cells.extC e, rfl, by simpa using hi⟩
  · intro ρ' own b hb
    have := VR.ptr (L := L) (w := { w with heap := w.heap.push (.cells x.cells t) }) (own := own) (off := 0) hb
    simpa using this
theorem box_ok {L : Link} {w : World} {ρ : Map} {H : Heap} (hr : HR L w ρ H) {t : TypeId} {v : AV} {x : Value} (hv : VR L w ρ (Own ρ H) v x) (hi : v.cells.all AV.isCell = true) {r : Result Next}
    (h : r = ((do Pure.pure (Next.value (← (do Pure.pure (.pointer (some (← newVar t x))) : Sem Value))) : Sem Next).run L.P w)) : Runs L w ρ H r (.ptr H.length 0) (H ++ [.cells v.cells]) :=
  (box_new hv hi h).runs hr
theorem mkmap_new {L : Link} {w : World} {ρ : Map} {H : Heap} {T : TypeId} {r : Result Next} (h : r = ((do Pure.pure (Next.value (← Instr.makeMap T none)) : Sem Next)).run L.P w) : NewS L w ρ H r (.map [] []) .map := by
  refine NewS.intro (x := .map (some w.heap.size)) (by simp) (.map #[] 0) ?_ ?_ ?_
  · subst h; simp [Instr.makeMap]
  · intro ρ' H' e
    exact ⟨rfl, #[], by simp, .nil, .nil, fun i h => by simp at h⟩
  · intro ρ' own b hb; exact .map hb

theorem bslice_new {L : Link} {E : Env} {w : World} {ρ : Map} {H : Heap} {s : List AV} {a : Act} (hs : SR L E w ρ H s a) {t e : TypeId} {sh : Option Nat} {tag len : Nat} {zero cs : List AV} {ps : Array (Nat × Operand)} {qs : List (Nat × Nat × RX)}
    (hu : L.P.underlying t = some (.slice e)) (he : elemOk L.P e sh tag = true) (hz : zeroOk L.P e zero = true) (hle : len * szOf sh ≤ 2 ^ 24)
    (m : mParts L E (fun i => some (i * szOf sh, szOf sh)) ps.toList qs = true) (hf : fillA (repC zero len) (evParts E s qs) = some cs) {r : Result Next}
    (h : r = ((do Pure.pure (Next.value (← Instr.buildSlice t len (ps.map fun (i, x) => (i, a.eval x)))) : Sem Next).run L.P w)) : NewS L w ρ H r (.arr (szOf sh) tag 0 cs) (fun b => .sl b 0 len sh) := by
  obtain ⟨hsh, htag⟩ := elemOk_tag he
  obtain ⟨_, hsz, hco⟩ := shOk_run hsh w
  unfold zeroOk at hz
  split at hz
  case h_2 => cases hz
  rename_i i hi
  split at hz
  case h_2 => cases hz
  rename_i z hzz
  simp only [Bool.and_eq_true, beq_iff_eq] at hz
  obtain ⟨⟨hz1, hz2⟩, hz3⟩ := hz
  have hisz : i.size = szOf sh := by have := hco; simp [Program.cellsOf, hi] at this; exact this
  obtain ⟨hv0, hc0⟩ := mVL_ok (L := L) (w := w) (ρ := ρ) (own := Own ρ H) hz1
  have hrep : ((Array.range (len * szOf sh)).map fun i => z.cells[i % z.cells.size]!).toList = (List.replicate len z.cells.toList).flatten := by
    have := rep_range z.cells len
    rw [hz2, hisz] at this
    rw [hz2, hisz]
    simpa using this
  have hvz : VRs L w ρ (Own ρ H) (repC zero len) ((Array.range (len * szOf sh)).map fun i => z.cells[i % z.cells.size]!).toList := by
    rw [hrep]; exact repC_VRs hv0 len
  obtain ⟨cells, h3, h4, h5⟩ := fill_ok (mParts_ok hs m) hvz (repC_cell hc0 len) hf
  have hlen : cs.length = cells.size := by have := h4.length; simpa using this
  have hcs : len * szOf sh = cells.size := by
    -- filling keeps the length
    have hfl : ∀ (aps : List (Nat × Nat × AV)) (c1 c2 : List AV), fillA c1 aps = some c2 → c2.length = c1.length := by
      intro aps
      induction aps with
      | nil => intro c1 c2 h; simp [fillA] at h; rw [h]
      | cons p r ih =>
        obtain ⟨off, size, v⟩ := p
        intro c1 c2 h
        simp only [fillA] at h
        split at h
        · rename_i hc; rw [ih _ _ h, wr_length (by omega)]
        · cases h
    have := hfl _ _ _ hf
    rw [repC_len, hz3, hisz] at this
    omega
  have hrun : (Instr.buildSlice t len (ps.map fun (i, x) => (i, a.eval x))).run L.P w = .ok (.slice (some ⟨w.heap.size, 0, none⟩) len len) { w with heap := w.heap.push (.cells cells e) } := by
    have hnot : ¬ (len * szOf sh > 2 ^ 24) := by omega
    by_cases h0 : len * szOf sh = 0
    · have hz0 : ((Array.range (len * szOf sh)).map fun i => z.cells[i % z.cells.size]!) = #[] := by rw [h0]; simp
      rw [hz0] at h3
      have h3' : Instr.fill (fun i => some (i * szOf sh, szOf sh)) #[] (ps.toList.map fun x => (x.fst, a.eval x.snd)) = some cells := h3
      simp only [Instr.buildSlice, Sem.run_bind, run_underlying1 hu, Result.andThen_ok, hsz, h0]
      have er : ∀ f : Nat → Value, (Array.range 0).map f = #[] := by simp
      simp [h3', newRow, er]
    · simp [Instr.buildSlice, run_underlying1 hu, hsz, hnot, h0, zeroValue, typeInfo, hi, hzz, newRow]
      have h3' := h3
      simp at h3'
      simp [h3']
  refine NewS.intro (x := .slice (some ⟨w.heap.size, 0, none⟩) len len) (by simp) (.cells cells e) (by subst h; exact exec_v hrun) ?_ ?_
  · intro ρ' H' ex
    refine ⟨cells, e, (0, 0), heap_push_size w _, by omega, ?_, by simp, fun ht => htag ht, h5⟩
    have hlen2 : cells.toList.take cs.length = cells.toList := List.take_of_length_le (by simp [hlen])
    simp only [List.drop_zero, hlen2]
    exact h4.extC ex
  · intro ρ' own b hb
    exact VR.sl hb (Nat.le_refl _) fun _ => ⟨by simp, cells, e, (0, 0), heap_push_size w _, by omega⟩
theorem bslice_ok {L : Link} {E : Env} {w : World} {ρ : Map} {H : Heap} {s : List AV} {a : Act} (hs : SR L E w ρ H s a) {t e : TypeId} {sh : Option Nat} {tag len : Nat} {zero cs : List AV} {ps : Array (Nat × Operand)} {qs : List (Nat × Nat × RX)}
    (hu : L.P.underlying t = some (.slice e)) (he : elemOk L.P e sh tag = true) (hz : zeroOk L.P e zero = true) (hle : len * szOf sh ≤ 2 ^ 24)
    (m : mParts L E (fun i => some (i * szOf sh, szOf sh)) ps.toList qs = true) (hf : fillA (repC zero len) (evParts E s qs) = some cs) {r : Result Next}
    (h : r = ((do Pure.pure (Next.value (← Instr.buildSlice t len (ps.map fun (i, x) => (i, a.eval x)))) : Sem Next).run L.P w)) : Runs L w ρ H r (.sl H.length 0 len sh) (H ++ [.arr (szOf sh) tag 0 cs]) :=
  (bslice_new hs hu he hz hle m hf h).runs hs.hr
end Go.AM

/- Operations that write: variables, slices' elements, maps. -/
namespace Go.AM
set_option linter.unusedVariables false
set_option linter.unusedSimpArgs false

section
variable {L : Link} {w : World} {ρ : Map} {own : Nat → Prop}
theorem VR.oneCell {v : AV} {x : Value} (h : VR L w ρ own v x) (hi : v.isCell = true) : x.oneCell' = true := by
  cases h <;> simp_all [AV.isCell, Value.oneCell']
theorem VRs.oneCell {vs : List AV} {xs : List Value} (h : VRs L w ρ own vs xs) (hi : ∀ v ∈ vs, v.isCell = true) : ∀ x ∈ xs, x.oneCell' = true := by
  induction vs generalizing xs with
  | nil => cases h; simp
  | cons v r ih =>
    cases h with
    | cons h1 h2 =>
      intro x hx
      simp at hx
      rcases hx with rfl | hx
      · exact h1.oneCell (hi v (by simp))
      · exact ih h2 (fun v hv => hi v (by simp [hv])) x hx
end

theorem seg_write {α : Type} (F vs : List α) (base off m : Nat) (h1 : off + vs.length ≤ m) (h2 : base + m ≤ F.length) :
    ((F.take (base + off) ++ vs ++ F.drop (base + off + vs.length)).drop base).take m = ((F.drop base).take m).take off ++ vs ++ ((F.drop base).take m).drop (off + vs.length) := by
  have e1 : (F.take (base + off)).drop base = (F.drop base).take off := by rw [List.drop_take]; congr 1; omega
  have l1 : (F.take (base + off)).length = base + off := by simp; omega
  have d : (F.take (base + off) ++ vs ++ F.drop (base + off + vs.length)).drop base = (F.drop base).take off ++ vs ++ F.drop (base + off + vs.length) := by
    rw [List.append_assoc, List.drop_append_of_le_length (by omega), e1, List.append_assoc]
  rw [d]
  have l2 : ((F.drop base).take off).length = off := by simp; omega
  rw [List.append_assoc, List.take_append, l2, List.take_append]
  have t1 : ((F.drop base).take off).take m = (F.drop base).take off := List.take_of_length_le (by omega)
  have t2 : vs.take (m - off) = vs := List.take_of_length_le (by omega)
  rw [t1, t2, List.take_take, List.append_assoc]
  congr 1
  · congr 1; omega
  · congr 1
    rw [List.drop_take, List.drop_drop]
    congr 1
    · omega
    · congr 1; omega

section
variable {L : Link} {w : World} {ρ : Map} {H : Heap}

/-- Cells are written into a block of the run's own. -/
theorem write_cells (hr : HR L w ρ H) {b c base off : Nat} (hb : ρ b = some (c, base)) {vs : List AV} {xs : List Value} (hv : VRs L w ρ (Own ρ H) vs xs) (hi : ∀ v ∈ vs, v.isCell = true) {blk blk' : Blk}
    (hx : H[b]? = some blk)
    (hk : (∃ cs, blk = .cells cs ∧ off + vs.length ≤ cs.length ∧ blk' = .cells (wr cs off vs)) ∨ (∃ sz tag fz cs, blk = .arr sz tag fz cs ∧ fz ≤ off ∧ off + vs.length ≤ cs.length ∧ blk' = .arr sz tag fz (wr cs off vs))) :
    ∃ w', (storeCells ⟨c, base + off, none⟩ xs).run L.P w = .ok () w' ∧ Ext w ρ H w' ρ (H.set b blk') ∧ HR L w' ρ (H.set b blk') := by
  have hl := hv.length
  rcases hk with ⟨cs, rfl, hle, rfl⟩ | ⟨sz, tag, fz, cs, rfl, hfz, hle, rfl⟩
  · obtain ⟨h0, vals, ty, fr, hw, hvv, hfr, hic⟩ := hr.blk b c base _ hb hx
    subst h0
    have hvl := hvv.length
    simp only [Array.length_toList] at hvl
    have hrun := run_storeCells_atF L.P c (0 + off) ty fr xs 0 vals w hw (by omega) (by omega) (hv.oneCell hi)
    have hlive : live H b := live_of hx (by simp)
    have e : Ext w ρ H (w.setRow c (vals.toList.take (0 + off + 0) ++ xs ++ vals.toList.drop (0 + off + 0 + xs.length)).toArray) ρ (H.set b (.cells (wr cs off vs))) :=
      ext_set hb hlive (by simp) rfl rfl rfl (by simp) (fun k hk => setRow_other w c k _ hk) (fun cs' ty' fr' h => by
        rw [hw] at h; injection h with h; injection h with h1 h2 h3
        subst h1; subst h2; subst h3
        exact ⟨_, _, setRow_heap w c _ _ _ _ hw, by simp; omega⟩)
    refine ⟨_, hrun, e, hr.set hb hlive (by simp) e (by simp) (fun k hk => setRow_other w c k _ hk) ⟨rfl, _, ty, fr, setRow_heap w c _ _ _ _ hw, ?_, hfr, wr_cell hic hi⟩⟩
    have := (hvv.wr hv off).ext e
    simpa using this
  · obtain ⟨full, ty, fr, hw, hlf, hvv, hfr, htag, hic⟩ := hr.blk b c base _ hb hx
    have hrun := run_storeCells_atF L.P c (base + off) ty fr xs 0 full w hw (by omega) (by omega) (hv.oneCell hi)
    have hlive : live H b := live_of hx (by simp)
    have e : Ext w ρ H (w.setRow c (full.toList.take (base + off + 0) ++ xs ++ full.toList.drop (base + off + 0 + xs.length)).toArray) ρ (H.set b (.arr sz tag fz (wr cs off vs))) :=
      ext_set hb hlive (by simp) rfl rfl rfl (by simp) (fun k hk => setRow_other w c k _ hk) (fun cs' ty' fr' h => by
        rw [hw] at h; injection h with h; injection h with h1 h2 h3
        subst h1; subst h2; subst h3
        exact ⟨_, _, setRow_heap w c _ _ _ _ hw, by simp; omega⟩)
    have hwl : (wr cs off vs).length = cs.length := wr_length (by omega)
    refine ⟨_, hrun, e, hr.set hb hlive (by simp) e (by simp) (fun k hk => setRow_other w c k _ hk) ⟨_, ty, fr, setRow_heap w c _ _ _ _ hw, ?_, ?_, hfr, htag, wr_cell hic hi⟩⟩
    · rw [hwl]; simp; omega
    · rw [hwl]
      have := (hvv.wr hv off).ext e
      have hs := seg_write full.toList xs base off cs.length (by omega) (by simpa using hlf)
      simp only [Nat.add_zero]
      rw [hs]
      exact this

theorem store_ok (hr : HR L w ρ H) {t : TypeId} {n : Nat} (ht : sizeOk L.P t n = true) {av v : AV} {x y : Value} (ha : VR L w ρ (Own ρ H) av x) (hv : VR L w ρ (Own ρ H) v y) {H' : Heap} (hl : storeA n av v H = some H') :
    ∃ w', (Instr.storeAt t x y).run L.P w = .ok () w' ∧ Ext w ρ H w' ρ H' ∧ HR L w' ρ H' := by
  unfold storeA at hl
  split at hl
  case isFalse => cases hl
  rename_i hc
  have hcn := hc.1
  have hvl := hv.cells.length
  simp only [Array.length_toList] at hvl
  have hsz : y.cells.size = n := by omega
  have hcell : ∀ u ∈ v.cells, u.isCell = true := by simpa using hc.2
  split at hl
  case h_2 => cases hl
  rename_i b off
  cases ha with
  | @ptr _ _ c base hb =>
    have go : ∀ w', (storeCells ⟨c, base + off, none⟩ y.cells.toList).run L.P w = .ok () w' → (Instr.storeAt t (.pointer (some ⟨c, base + off, none⟩)) y).run L.P w = .ok () w' := by
      intro w' h
      simp [Instr.storeAt, Instr.sureAddr, storeVar, sizeOk_run ht, hsz, h]
    split at hl
    · rename_i cs hx
      split at hl
      · rename_i hle
        injection hl with hl; subst hl
        have hle2 : off + v.cells.length ≤ cs.length := by omega
        obtain ⟨w', h1, h2, h3⟩ := write_cells hr hb hv.cells hcell hx (.inl ⟨cs, rfl, hle2, rfl⟩)
        exact ⟨w', go w' h1, h2, h3⟩
      · cases hl
    · rename_i sz tag fz cs hx
      split at hl
      · rename_i hle
        injection hl with hl; subst hl
        have hle2 : off + v.cells.length ≤ cs.length := by omega
        obtain ⟨w', h1, h2, h3⟩ := write_cells hr hb hv.cells hcell hx (.inr ⟨sz, tag, fz, cs, rfl, hle.1, hle2, rfl⟩)
        exact ⟨w', go w' h1, h2, h3⟩
      · cases hl
    · cases hl

/-! ### Maps -/
def kkOk (P : Program) (t : TypeId) (kk : KK) : Bool :=
  match P.underlying t with
  | some .string => kk = .str
  | some (.int _) => kk = .int
  | some .bool => kk = .bool
  | _ => false
def mapOfT (P : Program) (t : TypeId) : Option (TypeId × TypeId) := match P.underlying t with | some (.map k e) => some (k, e) | _ => none
theorem mapOfT_ok {P : Program} {t k e : TypeId} (h : mapOfT P t = some (k, e)) : P.underlying t = some (.map k e) := by
  unfold mapOfT at h
  split at h
  · rename_i hu; injection h with h; injection h with h1 h2; subst h1; subst h2; exact hu
  · cases h
theorem str_beq (a b : ByteArray) : (a == b) = (a.data.toList == b.data.toList) := by
  show (a.data == b.data) = _
  rw [Bool.eq_iff_iff]
  simp only [beq_iff_eq]
  exact Array.toList_inj.symm
theorem str_beq' (a b : ByteArray) : (a.toList == b.toList) = (a.data.toList == b.data.toList) := by
  rw [ByteArray.toList_eq, ByteArray.toList_eq]
theorem key_same {own : Nat → Prop} {kk : KK} {t : TypeId} (hk : kkOk L.P t kk = true) {d : TypeDesc} (hd : L.P.underlying t = some d) {k e : AV} {x y : Value} (hik : k.isKey kk = true) (hx : VR L w ρ own k x) (hy : VR L w ρ own e y) {b : Bool}
    (h : k.keyEq e = some b) : Instr.sameNow d x y = some b := by
  unfold kkOk at hk
  rw [hd] at hk
  cases hx <;> simp [AV.isKey] at hik <;> subst hik
  · -- bool
    cases d <;> simp at hk
    cases hy <;> simp [AV.keyEq] at h
    simp [Instr.sameNow, h]
  · cases d <;> simp at hk
    cases hy <;> simp [AV.keyEq] at h
    simp [Instr.sameNow, h]
  · cases d <;> simp at hk
    cases hy <;> simp [AV.keyEq] at h
    simp only [Instr.sameNow]
    rw [str_beq]
    simp [← h]
theorem find_ok {own : Nat → Prop} {kk : KK} {t : TypeId} (hk : kkOk L.P t kk = true) {d : TypeDesc} (hd : L.P.underlying t = some d) {k : AV} {x : Value} (hik : k.isKey kk = true) (hx : VR L w ρ own k x) :
    ∀ (ks : List AV) (es : List MapEntry) (i : Nat) (r : Option Nat), VRs L w ρ own ks (es.map (·.key)) → findK k ks i = some r →
      Instr.findNow d x es i = some (r.map fun j => (j, ((es[j - i]?).map (·.val)).getD Go.undef)) ∧ ∀ j, r = some j → i ≤ j ∧ j - i < es.length
  | [], es, i, r, hv, hf => by
    simp [findK] at hf
    subst hf
    cases es with
    | nil => simp [Instr.findNow]
    | cons e es => cases hv
  | e :: ks, es, i, r, hv, hf => by
    cases es with
    | nil => cases hv
    | cons m es =>
      cases hv with
      | cons h1 h2 =>
        simp only [findK] at hf
        cases hq : k.keyEq e with
        | none => simp [hq] at hf
        | some b =>
          have hs := key_same hk hd hik hx h1 hq
          rw [hq] at hf
          cases b with
          | true =>
            simp at hf
            subst hf
            simp [Instr.findNow, hs]
          | false =>
            simp at hf
            obtain ⟨h3, h4⟩ := find_ok hk hd hik hx ks es (i + 1) r h2 hf
            refine ⟨?_, fun j hj => ?_⟩
            · simp only [Instr.findNow, hs, h3]
              cases r with
              | none => rfl
              | some j =>
                obtain ⟨h5, h6⟩ := h4 j rfl
                have : j - i = (j - (i + 1)) + 1 := by omega
                simp [this]
            · obtain ⟨h5, h6⟩ := h4 j hj
              simp; omega
theorem run_checkKey1 {P : Program} {kk : KK} {t : TypeId} (hk : kkOk P t kk = true) (x : Value) (em : Bool) (n : Nat) : (Instr.checkKey em (n + 1) t x).run P w = .ok () w := by
  unfold kkOk at hk
  cases hu : P.underlying t with
  | none => simp [hu] at hk
  | some d =>
    rw [hu] at hk
    cases d <;> simp at hk <;> cases x <;> simp [Instr.checkKey, run_underlying1 hu]
theorem run_checkKey {own : Nat → Prop} {P : Program} {kk : KK} {t : TypeId} (hk : kkOk P t kk = true) {k : AV} {x : Value} (em : Bool) : (Instr.checkKey em 10000 t x).run P w = .ok () w :=
  run_checkKey1 hk x em 9999
theorem run_find {P : Program} {t : TypeId} {d : TypeDesc} (hd : P.underlying t = some d) {x : Value} {es : List MapEntry} {r : Option (Nat × Value)} (h : Instr.findNow d x es 0 = some r) : (Instr.findKey t x es).run P w = .ok r w := by
  simp [Instr.findKey, run_underlying1 hd, h]
theorem run_getMap {P : Program} {c : Nat} {es : Array MapEntry} {clock : Nat} (h : w.heap[c]? = some (.map es clock)) : (getObj c).run P w = .ok (.map es clock) w := by
  simp [getObj, Sem.run, h]

/-- The entries that a map's value leads to. -/
theorem map_read (hr : HR L w ρ H) {m : AV} {x : Value} (hm : VR L w ρ (Own ρ H) m x) {ks vs : List AV} (h : mapOf m H = some (ks, vs)) :
    ∃ es : Array MapEntry, VRs L w ρ (Own ρ H) ks (es.toList.map (·.key)) ∧ VRs L w ρ (Own ρ H) vs (es.toList.map (·.val)) ∧
      ((x = .map none ∧ es = #[]) ∨ ∃ c clock, x = .map (some c) ∧ w.heap[c]? = some (.map es clock)) := by
  unfold mapOf at h
  split at h
  · injection h with h; injection h with h1 h2; subst h1; subst h2
    cases hm
    exact ⟨#[], .nil, .nil, .inl ⟨rfl, rfl⟩⟩
  · injection h with h; injection h with h1 h2; subst h1; subst h2
    cases hm with
    | dmap hw ho hk hv => exact ⟨_, hk, hv, .inr ⟨_, _, rfl, hw⟩⟩
  · cases hm with
    | @map b c hb =>
      split at h
      · rename_i ks' vs' hx
        injection h with h; injection h with h1 h2; subst h1; subst h2
        obtain ⟨_, es, hw, hk, hv, _⟩ := hr.blk _ _ _ _ hb hx
        exact ⟨es, hk, hv, .inr ⟨_, _, rfl, hw⟩⟩
      · cases h
  · cases h

/-- The zero value of a type. -/
def zeroV (P : Program) (t : TypeId) (z : AV) : Bool := match P.info? t with | some i => (match i.zero with | some v => mV v z | none => false) | none => false
theorem zeroV_run {own : Nat → Prop} {t : TypeId} {z : AV} (h : zeroV L.P t z = true) : ∃ v, (zeroValue t).run L.P w = .ok v w ∧ VR L w ρ own z v := by
  unfold zeroV at h
  split at h
  · rename_i i hi
    split at h
    · rename_i v hz; exact ⟨v, by simp [zeroValue, typeInfo, hi, hz], mV_ok h⟩
    · cases h
  · cases h

theorem lookup_ok (hr : HR L w ρ H) {t kt et : TypeId} (ht : L.P.underlying t = some (.map kt et)) {kk : KK} (hk : kkOk L.P kt kk = true) {zero : AV} (hz : zeroV L.P et zero = true) {m k v : AV} {x y : Value}
    (hm : VR L w ρ (Own ρ H) m x) (hy : VR L w ρ (Own ρ H) k y) {ok : Bool} (h : lookupA kk zero m k ok H = some v) : ∃ z, (Instr.lookup t x y ok).run L.P w = .ok z w ∧ VR L w ρ (Own ρ H) v z := by
  unfold lookupA at h
  split at h
  case isFalse => cases h
  rename_i hik
  cases hmo : mapOf m H with
  | none => simp [hmo] at h
  | some p =>
    obtain ⟨ks, vs⟩ := p
    simp only [hmo, Option.bind_some] at h
    cases hf : findK k ks 0 with
    | none => simp [hf] at h
    | some r =>
      simp only [hf, Option.map_some, Option.some.injEq] at h
      obtain ⟨es, hks, hvs, hx⟩ := map_read hr hm hmo
      obtain ⟨d, hd⟩ : ∃ d, L.P.underlying kt = some d := by
        unfold kkOk at hk
        cases hu : L.P.underlying kt with
        | none => simp [hu] at hk
        | some d => exact ⟨d, rfl⟩
      obtain ⟨hfind, hlt⟩ := find_ok hk hd hik hy ks es.toList 0 r hks hf
      have hck : ∀ em, (Instr.checkKey em 10000 kt y).run L.P w = .ok () w := fun em => run_checkKey (own := Own ρ H) (k := k) hk em
      have hrf := run_find (w := w) hd hfind
      obtain ⟨zv, hzr, hzv⟩ := zeroV_run (L := L) (w := w) (ρ := ρ) (own := Own ρ H) hz
      cases r with
      | none =>
        simp at h hrf
        cases ok with
        | true =>
          simp at h; subst h
          refine ⟨.tuple #[zv, .bool false], ?_, ?_⟩
          · rcases hx with ⟨rfl, rfl⟩ | ⟨c, clock, rfl, hw⟩
            · simp [Instr.lookup, run_underlying1 ht, hck, hrf, hzr]
            · simp [Instr.lookup, run_underlying1 ht, run_getMap hw, hck, hrf, hzr]
          · exact VR.tup (xs := [zv, .bool false]) (.cons hzv (.cons (.bool _) .nil))
        | false =>
          simp at h; subst h
          refine ⟨zv, ?_, hzv⟩
          rcases hx with ⟨rfl, rfl⟩ | ⟨c, clock, rfl, hw⟩
          · simp [Instr.lookup, run_underlying1 ht, hck, hrf, hzr]
          · simp [Instr.lookup, run_underlying1 ht, run_getMap hw, hck, hrf, hzr]
      | some j =>
        obtain ⟨_, hj⟩ := hlt j rfl
        simp at hj
        have hval : ∃ xv, (es.toList[j]?).map (·.val) = some xv ∧ VR L w ρ (Own ρ H) (vs.getD j undef) xv := by
          have hlen := hvs.length
          simp at hlen
          have hvj : vs[j]? = some (vs.getD j undef) := by
            rw [List.getD_eq_getElem?_getD, List.getElem?_eq_getElem (by omega)]; rfl
          obtain ⟨xv, h1, h2⟩ := hvs.get? hvj
          rw [List.getElem?_map] at h1
          exact ⟨xv, h1, h2⟩
        obtain ⟨xv, hxv, hvr⟩ := hval
        simp only [Nat.sub_zero, hxv, Option.map_some, Option.getD_some] at hrf
        cases ok with
        | true =>
          simp at h; subst h
          refine ⟨.tuple #[xv, .bool true], ?_, ?_⟩
          · rcases hx with ⟨rfl, rfl⟩ | ⟨c, clock, rfl, hw⟩
            · simp at hj
            · simp [Instr.lookup, run_underlying1 ht, run_getMap hw, hck, hrf]
          · exact VR.tup (xs := [xv, .bool true]) (.cons hvr (.cons (.bool _) .nil))
        | false =>
          simp at h; subst h
          refine ⟨xv, ?_, hvr⟩
          rcases hx with ⟨rfl, rfl⟩ | ⟨c, clock, rfl, hw⟩
          · simp at hj
          · simp [Instr.lookup, run_underlying1 ht, run_getMap hw, hck, hrf]
end
end Go.AM

/- Operations that write, on: maps; append; copy; clear. -/
namespace Go.AM
set_option linter.unusedVariables false
set_option linter.unusedSimpArgs false

section
variable {L : Link} {w : World} {ρ : Map} {H : Heap}

theorem map_ext {b c base : Nat} (hb : ρ b = some (c, base)) {ks vs ks' vs' : List AV} (hx : H[b]? = some (.map ks vs)) {es : Array MapEntry} {clock : Nat} (hw : w.heap[c]? = some (.map es clock)) (es' : Array MapEntry) (clock' : Nat) :
    Ext w ρ H { w with heap := w.heap.setIfInBounds c (.map es' clock') } ρ (H.set b (.map ks' vs')) :=
  ext_set hb (live_of hx (by simp)) (by simp) rfl rfl rfl (by simp) (fun k hk => by simp [Array.getElem?_setIfInBounds_ne (Ne.symm hk)]) (fun cs ty fr h => by rw [hw] at h; cases h)
theorem run_setMap {P : Program} {c : Nat} {es : Array MapEntry} {clock : Nat} (hw : w.heap[c]? = some (.map es clock)) (es' : Array MapEntry) (clock' : Nat) :
    (setObj c (.map es' clock')).run P w = .ok () { w with heap := w.heap.setIfInBounds c (.map es' clock') } := by
  simp [setObj, Sem.run, hw]
theorem map_HR (hr : HR L w ρ H) {b c base : Nat} (hb : ρ b = some (c, base)) {ks vs ks' vs' : List AV} (hx : H[b]? = some (.map ks vs)) {es : Array MapEntry} {clock : Nat} (hw : w.heap[c]? = some (.map es clock)) (es' : Array MapEntry)
    (hk : VRs L w ρ (Own ρ H) ks' (es'.toList.map (·.key))) (hv : VRs L w ρ (Own ρ H) vs' (es'.toList.map (·.val))) (hbn : ∀ i (h : i < es'.size), es'[i].born = i) :
    HR L { w with heap := w.heap.setIfInBounds c (.map es' es'.size) } ρ (H.set b (.map ks' vs')) := by
  have e := map_ext (ρ := ρ) (ks' := ks') (vs' := vs') hb hx hw es' es'.size
  have hc : c < w.heap.size := (Array.getElem?_eq_some_iff.1 hw).1
  have h0 : base = 0 := (hr.blk b c base _ hb hx).1
  exact hr.set hb (live_of hx (by simp)) (by simp) e (by simp) (fun k hk => by simp [Array.getElem?_setIfInBounds_ne (Ne.symm hk)])
    ⟨h0, es', by simp [hc], hk.ext e, hv.ext e, hbn⟩

theorem findK_at {k : AV} : ∀ (ks : List AV) (i j : Nat), findK k ks i = some (some j) → i ≤ j ∧ ∃ e, ks[j - i]? = some e ∧ k.keyEq e = some true
  | [], i, j, h => by simp [findK] at h
  | e :: ks, i, j, h => by
    simp only [findK] at h
    cases hq : k.keyEq e with
    | none => simp [hq] at h
    | some b =>
      rw [hq] at h
      cases b with
      | true => simp at h; subst h; exact ⟨Nat.le_refl _, e, by simp, hq⟩
      | false =>
        simp at h
        obtain ⟨h1, e', h2, h3⟩ := findK_at ks (i + 1) j h
        refine ⟨by omega, e', ?_, h3⟩
        have : j - i = (j - (i + 1)) + 1 := by omega
        rw [this]; simpa using h2
theorem key_bits {own : Nat → Prop} {k e : AV} {x y : Value} (hx : VR L w ρ own k x) (hy : VR L w ρ own e y) (h : k.keyEq e = some true) (n : Nat) : Instr.sameBits (n + 1) y x = true := by
  cases hx <;> cases hy <;> simp [AV.keyEq] at h
  · simp [Instr.sameBits, h]
  · simp [Instr.sameBits, h]
  · rename_i s t
    have : t = s := by cases s; cases t; simp_all
    subst this
    show (t.data == t.data) = true
    simp
theorem run_stays {P : Program} {x y : Value} (h : Instr.sameBits 10000 y x = true) : (Instr.keyThatStays y x).run P w = .ok x w := by
  simp [Instr.keyThatStays, h]
theorem kk_under {P : Program} {t : TypeId} {kk : KK} (hk : kkOk P t kk = true) : ∃ d, P.underlying t = some d := by
  unfold kkOk at hk
  cases hu : P.underlying t with
  | none => simp [hu] at hk
  | some d => exact ⟨d, rfl⟩
theorem map_modify {α : Type} (f : MapEntry → MapEntry) (g : MapEntry → α) (es : Array MapEntry) (i : Nat) (v : α) (h : ∀ e, g (f e) = v) : ((es.modify i f).toList.map g) = (es.toList.map g).set i v := by
  apply List.ext_getElem?
  intro j
  simp only [List.getElem?_map, Array.getElem?_toList, Array.getElem?_modify, List.getElem?_set, List.length_map, Array.length_toList]
  by_cases hj : i = j
  · subst hj
    by_cases hi : i < es.size
    · simp [hi, h]
    · simp [hi]
  · simp [hj]
theorem map_modify_id {α : Type} (f : MapEntry → MapEntry) (g : MapEntry → α) (es : Array MapEntry) (i : Nat) (h : ∀ e, g (f e) = g e) : ((es.modify i f).toList.map g) = es.toList.map g := by
  apply List.ext_getElem?
  intro j
  simp only [List.getElem?_map, Array.getElem?_toList, Array.getElem?_modify]
  by_cases hj : i = j
  · subst hj
    cases es[i]? <;> simp [h]
  · simp [hj]
theorem born_modify (f : MapEntry → MapEntry) (h : ∀ e, (f e).born = e.born) {es : Array MapEntry} (i : Nat) (hb : ∀ i (h : i < es.size), es[i].born = i) : ∀ j (hj : j < (es.modify i f).size), (es.modify i f)[j].born = j := by
  intro j hj
  simp at hj
  rw [Array.getElem_modify]
  split
  · rw [h]; exact hb j hj
  · exact hb j hj

/-- What a find tells of the world's own map. -/
theorem found (hr : HR L w ρ H) {b c : Nat} (hb : ρ b = some (c, 0)) {ks vs : List AV} (hx : H[b]? = some (.map ks vs)) {kt : TypeId} {kk : KK} (hk : kkOk L.P kt kk = true) {k : AV} {y : Value} (hy : VR L w ρ (Own ρ H) k y) (hik : k.isKey kk = true) {r : Option Nat} (hf : findK k ks 0 = some r) :
    ∃ es : Array MapEntry, w.heap[c]? = some (.map es es.size) ∧ VRs L w ρ (Own ρ H) ks (es.toList.map (·.key)) ∧ VRs L w ρ (Own ρ H) vs (es.toList.map (·.val)) ∧ (∀ i (h : i < es.size), es[i].born = i) ∧
      (∀ em, (Instr.checkKey em 10000 kt y).run L.P w = .ok () w) ∧
      ((r = none ∧ (Instr.findKey kt y es.toList).run L.P w = .ok none w) ∨ ∃ j xv, r = some j ∧ j < es.size ∧ (es[j]?).map (·.val) = some xv ∧ (Instr.findKey kt y es.toList).run L.P w = .ok (some (j, xv)) w ∧ VR L w ρ (Own ρ H) (vs.getD j undef) xv ∧
        (Instr.keyThatStays (((es[j]?).map (·.key)).getD y) y).run L.P w = .ok y w) := by
  obtain ⟨_, es, hw, hks, hvs, hbn⟩ := hr.blk b c 0 _ hb hx
  obtain ⟨d, hd⟩ := kk_under hk
  obtain ⟨hfind, hlt⟩ := find_ok hk hd hik hy ks es.toList 0 r hks hf
  have hrf := run_find (w := w) hd hfind
  refine ⟨es, hw, hks, hvs, hbn, fun em => run_checkKey (own := Own ρ H) (k := k) hk em, ?_⟩
  cases r with
  | none => exact .inl ⟨rfl, by simpa using hrf⟩
  | some j =>
    obtain ⟨_, hj⟩ := hlt j rfl
    simp at hj
    have hlen := hvs.length
    simp at hlen
    have hvj : vs[j]? = some (vs.getD j undef) := by
      rw [List.getD_eq_getElem?_getD, List.getElem?_eq_getElem (by omega)]; rfl
    obtain ⟨xv, h1, h2⟩ := hvs.get? hvj
    rw [List.getElem?_map, Array.getElem?_toList] at h1
    simp only [Nat.sub_zero, Option.map_some, Array.getElem?_toList, h1, Option.getD_some] at hrf
    refine .inr ⟨j, xv, rfl, hj, h1, hrf, h2, ?_⟩
    obtain ⟨_, e, he, hq⟩ := findK_at ks 0 j hf
    simp at he
    obtain ⟨ye, h3, h4⟩ := hks.get? he
    rw [List.getElem?_map, Array.getElem?_toList] at h3
    rw [h3]
    exact run_stays (key_bits hy h4 hq 9999)

theorem mapupd_ok (hr : HR L w ρ H) {t kt et : TypeId} (ht : L.P.underlying t = some (.map kt et)) {kk : KK} (hk : kkOk L.P kt kk = true) {m k v : AV} {x y z : Value}
    (hm : VR L w ρ (Own ρ H) m x) (hy : VR L w ρ (Own ρ H) k y) (hz : VR L w ρ (Own ρ H) v z) {H' : Heap} (h : mapupdA kk m k v H = some H') :
    ∃ w', (Instr.mapUpdate t x y z).run L.P w = .ok () w' ∧ Ext w ρ H w' ρ H' ∧ HR L w' ρ H' := by
  unfold mapupdA at h
  split at h
  case h_2 => cases h
  rename_i b
  split at h
  case isFalse => cases h
  rename_i hik
  split at h
  case h_2 => cases h
  rename_i ks vs hx
  cases hf : findK k ks 0 with
  | none => simp [hf] at h
  | some r =>
    simp only [hf, Option.map_some, Option.some.injEq] at h
    cases hm with
    | @map _ c hb =>
      obtain ⟨es, hw, hks, hvs, hbn, hck, hr'⟩ := found hr hb hx hk hy hik hf
      rcases hr' with ⟨rfl, hfind⟩ | ⟨j, xv, rfl, hj, hxv, hfind, hvr, hst⟩
      · simp at h; subst h
        have hrun := run_setMap (P := L.P) hw (es.push ⟨y, z, es.size⟩) (es.size + 1)
        refine ⟨{ w with heap := w.heap.setIfInBounds c (.map (es.push ⟨y, z, es.size⟩) (es.size + 1)) }, ?_, map_ext hb hx hw _ _, ?_⟩
        · simp [Instr.mapUpdate, run_underlying1 ht, run_getMap hw, hck, hfind, hrun]
        · have := map_HR hr hb hx hw (es.push ⟨y, z, es.size⟩) (ks' := ks ++ [k]) (vs' := vs ++ [v]) (by simpa using hks.append (.cons hy .nil)) (by simpa using hvs.append (.cons hz .nil)) (by
            intro i hi
            rw [Array.getElem_push]
            split
            · exact hbn i (by assumption)
            · simp at hi; simp; omega)
          simpa using this
      · simp at h; subst h
        have hrun := run_setMap (P := L.P) hw (es.modify j fun e => { e with key := y, val := z }) es.size
        refine ⟨{ w with heap := w.heap.setIfInBounds c (.map (es.modify j fun e => { e with key := y, val := z }) es.size) }, ?_, map_ext hb hx hw _ _, ?_⟩
        · simp [Instr.mapUpdate, run_underlying1 ht, run_getMap hw, hck, hfind, hst, hrun]
        · have := map_HR hr hb hx hw (es.modify j fun e => { e with key := y, val := z }) (ks' := ks.set j k) (vs' := vs.set j v)
            (by rw [map_modify _ (·.key) es j y (fun _ => rfl)]; exact hks.set j hy) (by rw [map_modify _ (·.val) es j z (fun _ => rfl)]; exact hvs.set j hz) (born_modify (fun e => { e with key := y, val := z }) (fun _ => rfl) j hbn)
          simpa using this

theorem mapent_ok (hr : HR L w ρ H) {t kt et : TypeId} (ht : L.P.underlying t = some (.map kt et)) {kk : KK} (hk : kkOk L.P kt kk = true) {zero : AV} (hz : zeroV L.P et zero = true) {m k v : AV} {x y : Value}
    (hm : VR L w ρ (Own ρ H) m x) (hy : VR L w ρ (Own ρ H) k y) {H' : Heap} (h : mapentA kk zero m k H = some (v, H')) :
    ∃ z w', (Instr.mapEntry t x y).run L.P w = .ok z w' ∧ Ext w ρ H w' ρ H' ∧ HR L w' ρ H' ∧ VR L w' ρ (Own ρ H') v z := by
  unfold mapentA at h
  split at h
  case h_2 => cases h
  rename_i b
  split at h
  case isFalse => cases h
  rename_i hik
  split at h
  case h_2 => cases h
  rename_i ks vs hx
  cases hf : findK k ks 0 with
  | none => simp [hf] at h
  | some r =>
    simp only [hf, Option.map_some, Option.some.injEq] at h
    cases hm with
    | @map _ c hb =>
      obtain ⟨es, hw, hks, hvs, hbn, hck, hr'⟩ := found hr hb hx hk hy hik hf
      obtain ⟨zv, hzr, hzv⟩ := zeroV_run (L := L) (w := w) (ρ := ρ) (own := Own ρ H) hz
      have hkl := hks.length
      simp at hkl
      rcases hr' with ⟨rfl, hfind⟩ | ⟨j, xv, rfl, hj, hxv, hfind, hvr, hst⟩
      · simp at h
        obtain ⟨rfl, rfl⟩ := h
        have hrun := run_setMap (P := L.P) hw (es.push ⟨y, zv, es.size⟩) (es.size + 1)
        have e := map_ext (ρ := ρ) (ks' := ks ++ [k]) (vs' := vs ++ [zero]) hb hx hw (es.push ⟨y, zv, es.size⟩) (es.size + 1)
        refine ⟨.tuple #[zv, goInt es.size], _, ?_, e, ?_, ?_⟩
        · simp [Instr.mapEntry, run_underlying1 ht, run_getMap hw, hck, hfind, hzr, hrun]
        · have := map_HR hr hb hx hw (es.push ⟨y, zv, es.size⟩) (ks' := ks ++ [k]) (vs' := vs ++ [zero]) (by simpa using hks.append (.cons hy .nil)) (by simpa using hvs.append (.cons hzv .nil)) (by
            intro i hi
            rw [Array.getElem_push]
            split
            · exact hbn i (by assumption)
            · simp at hi; simp; omega)
          simpa using this
        · rw [hkl]
          exact VR.tup (xs := [zv, goInt es.size]) (.cons (hzv.ext e) (.cons (.int _ _) .nil))
      · simp at h
        obtain ⟨rfl, rfl⟩ := h
        have hrun := run_setMap (P := L.P) hw (es.modify j fun e => { e with key := y }) es.size
        have e := map_ext (ρ := ρ) (ks' := ks.set j k) (vs' := vs) hb hx hw (es.modify j fun e => { e with key := y }) es.size
        have hbj : ((es[j]?).map fun x => (x.born : Int)).getD 0 = (j : Int) := by
          rw [Array.getElem?_eq_getElem hj]; simp [hbn j hj]
        refine ⟨.tuple #[xv, goInt j], _, ?_, e, ?_, ?_⟩
        · simp [Instr.mapEntry, run_underlying1 ht, run_getMap hw, hck, hfind, hst, hrun, hbj]
        · have := map_HR hr hb hx hw (es.modify j fun e => { e with key := y }) (ks' := ks.set j k) (vs' := vs)
            (by rw [map_modify _ (·.key) es j y (fun _ => rfl)]; exact hks.set j hy) (by rw [map_modify_id (fun e => { e with key := y }) (·.val) es j (fun _ => rfl)]; exact hvs) (born_modify (fun e => { e with key := y }) (fun _ => rfl) j hbn)
          simpa using this
        · exact VR.tup (xs := [xv, goInt j]) (.cons (hvr.ext e) (.cons (.int _ _) .nil))

theorem findIdx_born {es : Array MapEntry} (hb : ∀ i (h : i < es.size), es[i].born = i) {n : Nat} (hn : n < es.size) : es.findIdx? (fun e => (e.born : Int) == (n : Int)) = some n := by
  rw [Array.findIdx?_eq_some_iff_getElem]
  refine ⟨hn, by simp [hb n hn], fun j hj => ?_⟩
  simp [hb j (by omega)]; omega
theorem entst_ok (hr : HR L w ρ H) {t : TypeId} {m st v : AV} {x y z : Value} (hm : VR L w ρ (Own ρ H) m x) (hy : VR L w ρ (Own ρ H) st y) (hz : VR L w ρ (Own ρ H) v z) {H' : Heap} (h : entstA m st v H = some H') :
    ∃ w', (Instr.entryStore t x y z).run L.P w = .ok () w' ∧ Ext w ρ H w' ρ H' ∧ HR L w' ρ H' := by
  unfold entstA at h
  split at h
  case h_2 => cases h
  rename_i b k n
  split at h
  case h_2 => cases h
  rename_i ks vs hx
  split at h
  case isFalse => cases h
  rename_i hn
  injection h with h; subst h
  cases hy
  cases hm with
  | @map _ c hb =>
    obtain ⟨_, es, hw, hks, hvs, hbn⟩ := hr.blk b c 0 _ hb hx
    have hvl := hvs.length
    simp at hvl
    have hidx := findIdx_born hbn (n := n.toNat) (by omega)
    have hnn : ((n.toNat : Nat) : Int) = n := by omega
    rw [hnn] at hidx
    have hrun := run_setMap (P := L.P) hw (es.modify n.toNat fun e => { e with val := z }) es.size
    refine ⟨{ w with heap := w.heap.setIfInBounds c (.map (es.modify n.toNat fun e => { e with val := z }) es.size) }, ?_, map_ext hb hx hw _ _, ?_⟩
    · simp [Instr.entryStore, run_getMap hw, asInt, asIntOf, hidx, hrun]
    · have := map_HR hr hb hx hw (es.modify n.toNat fun e => { e with val := z }) (ks' := ks) (vs' := vs.set n.toNat v)
        (by rw [map_modify_id (fun e => { e with val := z }) (·.key) es n.toNat (fun _ => rfl)]; exact hks) (by rw [map_modify _ (·.val) es n.toNat z (fun _ => rfl)]; exact hvs.set n.toNat hz) (born_modify (fun e => { e with val := z }) (fun _ => rfl) n.toNat hbn)
      simpa using this
end
end Go.AM

/- append, copy, clear. -/
namespace Go.AM
set_option linter.unusedVariables false
set_option linter.unusedSimpArgs false

def bytesOk (P : Program) (e : TypeId) (n : Nat) : Bool := match P.info? e with | some i => i.bytes == n | none => false
def zsOk (P : Program) (e : TypeId) : Bool := match P.info? e with | some i => (match i.zero with | some z => z.cells.size == i.size | none => false) | none => false

theorem growBy_le (n : Nat) : ∀ (r c : Nat), 256 ≤ c → c ≤ 2 * n → Builtin.growBy n r c ≤ 2 * n
  | 0, c, _, h => h
  | r + 1, c, h1, h2 => by
    unfold Builtin.growBy
    split
    · exact h2
    · exact growBy_le n r _ (by omega) (by omega)
theorem nextcap_le {n old : Nat} (h : old < n) : Builtin.nextslicecap n old ≤ 2 * n := by
  unfold Builtin.nextslicecap
  split
  · omega
  · split
    · omega
    · exact growBy_le n 4 old (by omega) (by omega)

section
variable {L : Link} {w : World} {ρ : Map} {H : Heap}

/-- Cells of a block of the run's own from 'off' on. -/
theorem seg_read {F : List Value} {base off n m : Nat} (h : off + n ≤ m) : (((F.drop base).take m).drop off).take n = (F.drop (base + off)).take n := by
  rw [List.drop_take, List.take_take, List.drop_drop]
  congr 1
  omega

theorem run_lenOf_sl {P : Program} (a : Option Addr) (n c : Nat) : (Builtin.lenOf (.slice a n c)).run P w = .ok n w := by simp [Builtin.lenOf]
theorem run_first {P : Program} {a : Addr} {k : Nat} {vals : List Value} (hk : vals.length = k) (h : ∀ j x, vals[j]? = some x → w.cell? (a.add j) = some x) (sz n len cap : Nat) (hn : n * sz = k) :
    (Builtin.firstCells sz n (.slice (some a) len cap)).run P w = .ok vals.toArray w := by
  have := run_loadCells_list (P := P) w a vals h
  rw [hk, ← hn] at this
  simpa [Builtin.firstCells] using this

theorem elems_ok (hr : HR L w ρ H) {y : AV} {yv : Value} (hy : VR L w ρ (Own ρ H) y yv) {sz n : Nat} {ys : List AV} (h : elemsOf sz H y = some (ys, n)) :
    (Builtin.lenOf yv).run L.P w = .ok n w ∧ ys.length = n * sz ∧ (∀ c ∈ ys, c.isCell = true) ∧
      ∃ xs : List Value, VRs L w ρ (Own ρ H) ys xs ∧ ∀ w' : World, w'.heap = w.heap → (Builtin.firstCells sz n yv).run L.P w' = .ok xs.toArray w' := by
  have cellEq : ∀ {w' : World} {a : Addr}, w'.heap = w.heap → w'.cell? a = w.cell? a := fun h => by unfold World.cell?; rw [h]
  unfold elemsOf at h
  split at h
  · injection h with h; injection h with h1 h2; subst h1; subst h2
    cases hy
    exact ⟨run_lenOf_sl _ _ _, by simp, by simp, [], .nil, fun w' _ => by simp [Builtin.firstCells]⟩
  · rename_i xs
    split at h
    · rename_i hu
      injection h with h; injection h with h1 h2; subst h1; subst h2
      cases hy with
      | @data _ vals a c hv hi hl hc ho =>
        have hlen : (xs.flatMap AV.cells).length = xs.length * sz := by
          have : ∀ (l : List AV), l.all (fun x => x.cells.length == sz) = true → (l.flatMap AV.cells).length = l.length * sz := by
            intro l
            induction l with
            | nil => simp
            | cons x r ih =>
              intro h
              simp only [List.all_cons, Bool.and_eq_true, beq_iff_eq] at h
              simp only [List.flatMap_cons, List.length_append, h.1, ih h.2, List.length_cons, Nat.succ_mul]
              omega
          exact this xs hu
        have hvl := hv.length
        refine ⟨run_lenOf_sl _ _ _, hlen, hi, vals, hv, fun w' hw => ?_⟩
        exact run_first (k := vals.length) rfl (fun j x hx => by rw [cellEq hw]; exact VRs.cellAt (own := Own ρ H) hc j x hx) sz xs.length _ _ (by omega)
    · cases h
  · rename_i b off len sh
    split at h
    case isFalse => cases h
    rename_i hsz
    split at h
    case h_2 => cases h
    rename_i s' t' f' cs hx
    split at h
    case isFalse => cases h
    rename_i hle
    injection h with h; injection h with h1 h2; subst h1; subst h2
    cases hy with
    | @sl _ _ _ _ c base cap a hb hlc hcap =>
      obtain ⟨full, ty, fr, hw, hlf, hvv, hfr, htag, hic⟩ := hr.blk b c base _ hb hx
      have hsub : VRs L w ρ (Own ρ H) ((cs.drop off).take (len * sz)) ((full.toList.drop (base + off)).take (len * sz)) := by
        have := (hvv.drop off).take (len * sz)
        rwa [seg_read (by omega)] at this
      have hll : ((cs.drop off).take (len * sz)).length = len * sz := by simp; omega
      refine ⟨run_lenOf_sl _ _ _, hll, fun c hc => hic c (List.mem_of_mem_drop (List.mem_of_mem_take hc)), _, hsub, fun w' hw' => ?_⟩
      have hl2 := hsub.length
      by_cases h0 : len * sz = 0
      · have : (full.toList.drop (base + off)).take (len * sz) = [] := by rw [h0]; simp
        rw [this]
        exact run_first (vals := []) (k := 0) rfl (by simp) sz len _ _ h0
      · have hlen0 : 0 < len := Nat.pos_of_ne_zero fun e => h0 (by rw [e]; simp)
        obtain ⟨rfl, cs', ty', fr', hw2, hle2⟩ := hcap (by omega)
        refine run_first (k := len * sz) (by omega) (fun j x hx => ?_) sz len _ _ rfl
        rw [Addr.plain_add, cell_of_row w' c _ full ty fr (by rw [hw']; exact hw)]
        rw [List.getElem?_take] at hx
        split at hx
        · rw [List.getElem?_drop] at hx; simpa using hx
        · cases hx
  · rename_i s
    split at h
    · rename_i hsz
      subst hsz
      injection h with h; injection h with h1 h2; subst h1; subst h2
      cases hy with
      | str t =>
        have hlen : t.data.toList.length = t.size := Array.length_toList
        refine ⟨by rw [hlen]; rfl, by rw [List.length_map, Nat.mul_one], (fun c hc => by obtain ⟨b, _, rfl⟩ := List.mem_map.1 hc; rfl), Lib.strCells t, VRs.map2 _ fun b _ => .int _ _, fun w' _ => ?_⟩
        rw [hlen]
        exact Lib.run_firstCells_string w' 1 t
    · cases h
  · cases h

/-! ### append -/
theorem getElem?_zeroCells (z : Array Value) (n : Nat) : (Builtin.zeroCells z n).size = n * z.size := by simp [Builtin.zeroCells]

/-- The append itself: 'ap' is what lays the appended cells before us; it only reads. -/
def appRun (e : TypeId) (zeros : Bool) (base : Option Addr) (sLen sCap size n : Nat) (ap : Sem (Array Value)) (s x : Value) : Sem Value := do
  let need := sLen + n
  if need ≤ sCap then
    let new ← ap
    if let some a := base then storeCells (a.add (sLen * size)) new.toList
    pure (.slice base need sCap)
  else
    if (need : Int) > IntKind.i64.max ∧ (zeros ∨ (← typeInfo e).bytes = 0) then runtimePanic (.error "growslice: len out of range")
    if Builtin.nextslicecap need sCap * (← typeInfo e).bytes > 2 ^ 48 then (if zeros then runtimePanic (.error "growslice: len out of range") else do
      if !(← Builtin.mayShare size sLen n base x) then mark .noRoom
      unsupported (.resourceLimit "append: a slice or a string whose bytes no memory bears"))
    let newCap ← choose (.appendCap need sCap e)
    askRoom (newCap * (← typeInfo e).bytes)
    let old ← Builtin.firstCells size sLen s
    let new ← ap
    let rest := Builtin.zeroCells (← zeroValue e).cells (newCap - need)
    pure (.slice (some (← newRow e (old ++ new ++ rest))) need newCap)

theorem i64_max : IntKind.i64.max = 9223372036854775807 := by decide

theorem appRun_grow {P : Program} {e : TypeId} {zeros : Bool} {base : Option Addr} {sLen sCap size n : Nat} {ap : Sem (Array Value)} {s x : Value} {w : World} {i : TypeInfo} {z : Value}
    (hi : P.info? e = some i) (hz : i.zero = some z) (hgt : ¬ sLen + n ≤ sCap) (h63 : sLen + n < 9223372036854775808) (hby : (sLen + n) * i.bytes ≤ 140737488355328)
    {old new : Array Value} (hold : ∀ w' : World, w'.heap = w.heap → (Builtin.firstCells size sLen s).run P w' = .ok old w') (hnew : ∀ w' : World, w'.heap = w.heap → ap.run P w' = .ok new w') :
    ∃ cap w', (appRun e zeros base sLen sCap size n ap s x).run P w = .ok (.slice (some ⟨w.heap.size, 0, none⟩) (sLen + n) cap) w' ∧ sLen + n ≤ cap ∧ w'.os = w.os ∧ w'.tape = w.tape ∧ w'.output = w.output ∧
      w'.heap = w.heap.push (.cells (old ++ new ++ Builtin.zeroCells z.cells (cap - (sLen + n))) e) := by
  have hcap := nextcap_le (n := sLen + n) (old := sCap) (by omega)
  have hno : ¬ (((sLen + n : Nat) : Int) > IntKind.i64.max ∧ ((zeros = true) ∨ i.bytes = 0)) := by
    rw [i64_max]; rintro ⟨h, _⟩; omega
  have hno2 : ¬ (Builtin.nextslicecap (sLen + n) sCap * i.bytes > 2 ^ 48) := by
    have : Builtin.nextslicecap (sLen + n) sCap * i.bytes ≤ 2 * (sLen + n) * i.bytes := Nat.mul_le_mul_right _ hcap
    have : 2 * (sLen + n) * i.bytes = 2 * ((sLen + n) * i.bytes) := by rw [Nat.mul_assoc]
    omega
  let wd : World := { w with drawn := w.drawn + 1 }
  let cap := (Question.appendCap (sLen + n) sCap e).cut (w.tape w.drawn (Question.appendCap (sLen + n) sCap e))
  have hc : sLen + n ≤ cap := by simp only [cap, Question.cut]; omega
  refine ⟨cap, { wd with heap := w.heap.push (.cells (old ++ new ++ Builtin.zeroCells z.cells (cap - (sLen + n))) e) }, ?_, hc, rfl, rfl, rfl, rfl⟩
  have h1 := hold wd rfl
  have h2 := hnew wd rfl
  have hti : ∀ w', (typeInfo e).run P w' = .ok i w' := fun w' => by simp [typeInfo, hi]
  have hzv : ∀ w', (zeroValue e).run P w' = .ok z w' := fun w' => by simp [zeroValue, typeInfo, hi, hz]
  have hno' : ¬ (((sLen : Int) + (n : Int) > IntKind.i64.max) ∧ ((zeros = true) ∨ i.bytes = 0)) := by simpa using hno
  have hno2' : ¬ (2 ^ 48 < Builtin.nextslicecap (sLen + n) sCap * i.bytes) := hno2
  unfold appRun
  simp only [hgt, if_false, Sem.run_bind, hti, Result.andThen_ok, Sem.run_ite, hno, hno2, hno', hno2', run_choose, Question.forced, Sem.run_pure, run_askRoom]
  simp only [Bool.false_eq_true, if_false, Result.andThen_ok, hti, hzv, newRow, Sem.run_bind, run_newObj, Sem.run_pure, h1, h2, run_askRoom]
  simp only [wd, h1, h2, Result.andThen_ok, hti, hzv, run_askRoom, cap]

theorem append_ok (hr : HR L w ρ H) {e : TypeId} {sh : Option Nat} {tag bytes : Nat} (he : elemOk L.P e sh tag = true) (hby : bytesOk L.P e bytes = true) (hz : zsOk L.P e = true) {zeros : Bool}
    {x v : AV} {base : Option Addr} {sLen sCap n : Nat} (hx : VR L w ρ (Own ρ H) x (.slice base sLen sCap)) {ys : List AV} {xs : List Value} (hys : VRs L w ρ (Own ρ H) ys xs) (hyl : ys.length = n * szOf sh) (hyc : ∀ c ∈ ys, c.isCell = true)
    {ap : Sem (Array Value)} (hnew : ∀ w' : World, w'.heap = w.heap → ap.run L.P w' = .ok xs.toArray w') {y : Value} {H' : Heap} (h : appendA sh tag bytes x ys n H = some (v, H')) :
    ∃ z w' ρ', (appRun e zeros base sLen sCap (szOf sh) n ap (.slice base sLen sCap) y).run L.P w = .ok z w' ∧ Ext w ρ H w' ρ' H' ∧ HR L w' ρ' H' ∧ VR L w' ρ' (Own ρ' H') v z := by
  obtain ⟨hsh, htag⟩ := elemOk_tag he
  unfold bytesOk at hby
  split at hby
  case h_2 => cases hby
  rename_i i hi
  simp only [beq_iff_eq] at hby
  unfold zsOk at hz
  rw [hi] at hz
  simp only at hz
  split at hz
  case h_2 => cases hz
  rename_i zv hzv
  simp only [beq_iff_eq] at hz
  have hisz : i.size = szOf sh := by have := (shOk_run hsh w).2.2; simp [Program.cellsOf, hi] at this; exact this
  have hxl := hys.length
  have hnew0 := hnew w rfl
  unfold appendA at h
  split at h
  · -- nil
    cases hx
    split at h
    · rename_i hn
      subst hn
      injection h with h; injection h with h1 h2; subst h1; subst h2
      refine ⟨.slice none 0 0, w, ρ, ?_, Ext.refl _ _ _, hr, .nils⟩
      simp [appRun, hnew0]
    · rename_i hn
      split at h
      case isFalse => cases h
      rename_i hc
      injection h with h; injection h with h1 h2; subst h1; subst h2
      obtain ⟨cap, w', hrun, hcap, hos, ht, ho, hh⟩ := appRun_grow (P := L.P) (e := e) (zeros := zeros) (base := none) (sLen := 0) (sCap := 0) (size := szOf sh) (n := n) (ap := ap) (s := .slice none 0 0) (x := y) (w := w) hi hzv (by omega) (by omega) (by rw [hby, Nat.zero_add]; exact hc.1)
        (old := #[]) (fun w' _ => by simp [Builtin.firstCells]) hnew
      have hsz : (Builtin.zeroCells zv.cells (cap - (0 + n))).size = (cap - n) * szOf sh := by rw [getElem?_zeroCells, hz, hisz]; simp
      have hx' : (Blk.arr (szOf sh) tag 0 ys) ≠ .dead := by simp
      have ex := ext_new hr hx' _ hos ht ho hh
      have hwc : w'.heap[w.heap.size]? = some (.cells (#[] ++ xs.toArray ++ Builtin.zeroCells zv.cells (cap - (0 + n))) e) := by rw [hh]; simp
      have hfs : (#[] ++ xs.toArray ++ Builtin.zeroCells zv.cells (cap - (0 + n)) : Array Value).size = cap * szOf sh := by
        simp only [Array.size_append, hsz]
        have h1 : n * szOf sh + (cap - n) * szOf sh = cap * szOf sh := by rw [← Nat.add_mul]; congr 1; omega
        simp; omega
      refine ⟨_, w', _, hrun, ex, hr.new hx' _ hos ht ho hh ⟨_, e, (0, 0), hwc, ?_, ?_, by simp, fun h => htag h, hyc⟩, ?_⟩
      · rw [hfs, hyl]; simp only [Nat.zero_add]; exact Nat.mul_le_mul_right _ (by omega)
      · have : ((#[] ++ xs.toArray ++ Builtin.zeroCells zv.cells (cap - (0 + n)) : Array Value).toList.drop 0).take ys.length = xs := by
          simp [hxl]
        rw [this]; exact hys.ext ex
      · have hv : VR L w' (upd ρ H.length (w.heap.size, 0)) (Own (upd ρ H.length (w.heap.size, 0)) (H ++ [.arr (szOf sh) tag 0 ys])) (.sl H.length 0 n sh) (.slice (some ⟨w.heap.size, 0, none⟩) n cap) :=
          VR.sl (upd_same _ _ _) (by omega) fun _ => ⟨by simp, _, e, (0, 0), hwc, by rw [hfs]; omega⟩
        simpa using hv
  · rename_i b off len sh'
    split at h
    case isFalse => cases h
    rename_i hsh'
    subst hsh'
    cases hx with
    | @sl _ _ _ _ c bs _ a hb hlc hcap =>
    split at h
    · rename_i hn
      subst hn
      injection h with h; injection h with h1 h2; subst h1; subst h2
      have hxs : xs = [] := by
        have : xs.length = 0 := by rw [← hxl, hyl]; simp
        exact List.length_eq_zero_iff.1 this
      subst hxs
      refine ⟨.slice (some a) sLen sCap, w, ρ, ?_, Ext.refl _ _ _, hr, .sl hb hlc hcap⟩
      simp [appRun, hnew0, hlc, storeCells]
    · rename_i hn
      split at h
      case h_2 => cases h
      rename_i sz tag' fz cs hbx
      split at h
      case isFalse => cases h
      rename_i hc
      obtain ⟨rfl, rfl, hfz, hle, hbb, h63⟩ := hc
      injection h with h; injection h with h1 h2; subst h1; subst h2
      have hlive : live H b := live_of hbx (by simp)
      obtain ⟨full, ty, fr, hw, hlf, hvv, hfr, htg, hic⟩ := hr.blk b c bs _ hb hbx
      have hsub : VRs L w ρ (Own ρ H) ((cs.drop off).take (sLen * szOf sh')) ((full.toList.drop (bs + off)).take (sLen * szOf sh')) := by
        have := (hvv.drop off).take (sLen * szOf sh')
        rwa [seg_read (by omega)] at this
      have hsubl : ((cs.drop off).take (sLen * szOf sh')).length = sLen * szOf sh' := by simp; omega
      have hsubc : ∀ c ∈ (cs.drop off).take (sLen * szOf sh') ++ ys, c.isCell = true := by
        intro c hc
        simp only [List.mem_append] at hc
        rcases hc with hc | hc
        · exact hic c (List.mem_of_mem_drop (List.mem_of_mem_take hc))
        · exact hyc c hc
      have hblk : (Blk.arr (szOf sh') tag' (fz - off) ((cs.drop off).take (sLen * szOf sh') ++ ys)) ≠ .dead := by simp
      by_cases hroom : sLen + n ≤ sCap
      · -- there is room: the cells are written behind
        obtain ⟨rfl, cs2, ty2, fr2, hw2, hle2⟩ := hcap (by omega)
        rw [hw] at hw2; injection hw2 with hw2; injection hw2 with e1 e2 e3; subst e1; subst e2; subst e3
        have hmul : (sLen + n) * szOf sh' ≤ sCap * szOf sh' := Nat.mul_le_mul_right _ hroom
        rw [Nat.add_mul] at hmul
        have hst := run_storeCells_atF L.P c (bs + off + sLen * szOf sh') ty fr xs 0 full w hw (by omega) (by omega) (hys.oneCell hyc)
        have hlo : bs + off + sLen * szOf sh' + xs.length ≤ full.size := by omega
        have hext : Ext w ρ H (w.setRow c (full.toList.take (bs + off + sLen * szOf sh' + 0) ++ xs ++ full.toList.drop (bs + off + sLen * szOf sh' + 0 + xs.length)).toArray) (upd ρ H.length (c, bs + off)) (H.set b .dead ++ [.arr (szOf sh') tag' (fz - off) ((cs.drop off).take (sLen * szOf sh') ++ ys)]) :=
          ext_move hr hb hlive hblk rfl rfl rfl (by simp) (.inl rfl) (fun k _ hk => setRow_other w c k _ hk) (fun cs' ty' fr' h => by
            rw [hw] at h; injection h with h; injection h with h1 h2 h3
            subst h1; subst h2; subst h3
            exact ⟨_, _, setRow_heap w c _ _ _ _ hw, by simp; omega⟩)
        have hclt : c < w.heap.size := (hr.dom b c bs hb).2
        have hnl : ((cs.drop off).take (sLen * szOf sh') ++ ys).length = sLen * szOf sh' + xs.length := by rw [List.length_append, hsubl, hxl]
        refine ⟨.slice (some ⟨c, bs + off, none⟩) (sLen + n) sCap, _, _, ?_, hext, hr.move hb hlive hext (by simp) (.inl rfl) (by simpa using hclt) (fun k _ hk => setRow_other w c k _ hk) ⟨_, ty, fr, setRow_heap w c _ _ _ _ hw, ?_, ?_, by omega, fun h => htg h, hsubc⟩, ?_⟩
        · simp [appRun, hnew0, hroom, Addr.plain_add, hst]
        · rw [hnl]; simp; omega
        · rw [hnl]
          have hl1 : (full.toList.take (bs + off + sLen * szOf sh')).length = bs + off + sLen * szOf sh' := by simp; omega
          have e1 : ((full.toList.take (bs + off + sLen * szOf sh' + 0) ++ xs ++ full.toList.drop (bs + off + sLen * szOf sh' + 0 + xs.length)).drop (bs + off)).take (sLen * szOf sh' + xs.length) = (full.toList.drop (bs + off)).take (sLen * szOf sh') ++ xs := by
            simp only [Nat.add_zero]
            rw [List.append_assoc, List.drop_append_of_le_length (by omega), List.drop_take]
            have hl2 : ((full.toList.drop (bs + off)).take (bs + off + sLen * szOf sh' - (bs + off))).length = sLen * szOf sh' := by simp; omega
            rw [List.take_append, hl2, List.take_of_length_le (by omega)]
            have : bs + off + sLen * szOf sh' - (bs + off) = sLen * szOf sh' := by omega
            rw [this]
            congr 1
            rw [List.take_append, List.take_of_length_le (by omega)]
            have : sLen * szOf sh' + xs.length - sLen * szOf sh' - xs.length = 0 := by omega
            rw [this]; simp
          simp only [List.toList_toArray]
          rw [e1]
          exact (hsub.append hys).ext hext
        · refine VR.sl (upd_same _ _ _) hroom fun _ => ⟨by simp, _, ty, fr, setRow_heap w c _ _ _ _ hw, ?_⟩
          simp; omega
      · -- a new array
        have hold : ∀ w' : World, w'.heap = w.heap → (Builtin.firstCells (szOf sh') sLen (.slice (some a) sLen sCap)).run L.P w' = .ok ((full.toList.drop (bs + off)).take (sLen * szOf sh')).toArray w' := by
          intro w' hw'
          have hl2 := hsub.length
          by_cases h0 : sLen * szOf sh' = 0
          · rw [h0]
            have := run_first (P := L.P) (w := w') (a := a) (vals := []) (k := 0) rfl (by simp) (szOf sh') sLen sLen sCap h0
            simpa using this
          · have hlen0 : 0 < sLen := Nat.pos_of_ne_zero fun e => h0 (by rw [e]; simp)
            obtain ⟨rfl, _⟩ := hcap (by omega)
            refine run_first (k := sLen * szOf sh') (by omega) (fun j x hx => ?_) (szOf sh') sLen _ _ rfl
            rw [Addr.plain_add, cell_of_row w' c _ full ty fr (by rw [hw']; exact hw)]
            rw [List.getElem?_take] at hx
            split at hx
            · rw [List.getElem?_drop] at hx; simpa using hx
            · cases hx
        obtain ⟨cap, w', hrun, hcp, hos, ht, ho, hh⟩ := appRun_grow (P := L.P) (e := e) (zeros := zeros) (base := some a) (sLen := sLen) (sCap := sCap) (size := szOf sh') (n := n) (ap := ap) (s := .slice (some a) sLen sCap) (x := y) (w := w) hi hzv hroom h63 (by rw [hby]; exact hbb) hold hnew
        have hsz : (Builtin.zeroCells zv.cells (cap - (sLen + n))).size = (cap - (sLen + n)) * szOf sh' := by rw [getElem?_zeroCells, hz, hisz]
        have hol : ((full.toList.drop (bs + off)).take (sLen * szOf sh')).length = sLen * szOf sh' := by rw [← hsub.length, hsubl]
        have hfs : (((full.toList.drop (bs + off)).take (sLen * szOf sh')).toArray ++ xs.toArray ++ Builtin.zeroCells zv.cells (cap - (sLen + n)) : Array Value).size = cap * szOf sh' := by
          have h1 : sLen * szOf sh' + n * szOf sh' + (cap - (sLen + n)) * szOf sh' = cap * szOf sh' := by rw [← Nat.add_mul, ← Nat.add_mul]; congr 1; omega
          simp only [Array.size_append, hsz, List.size_toArray, hol]; omega
        have hwc : w'.heap[w.heap.size]? = some (.cells (((full.toList.drop (bs + off)).take (sLen * szOf sh')).toArray ++ xs.toArray ++ Builtin.zeroCells zv.cells (cap - (sLen + n))) e) := by rw [hh]; simp
        have hkeep : ∀ k, k < w.heap.size → w'.heap[k]? = w.heap[k]? := fun k hk => by rw [hh, Array.getElem?_push_lt hk, Array.getElem?_eq_getElem hk]
        have hext : Ext w ρ H w' (upd ρ H.length (w.heap.size, 0)) (H.set b .dead ++ [.arr (szOf sh') tag' (fz - off) ((cs.drop off).take (sLen * szOf sh') ++ ys)]) :=
          ext_move hr hb hlive hblk hos ht ho (by rw [hh]; simp) (.inr (Nat.le_refl _)) (fun k hk _ => hkeep k hk) (fun cs' ty' fr' h => ⟨cs', fr', by rw [hkeep c (hr.dom b c bs hb).2]; exact h, rfl⟩)
        have hnl : ((cs.drop off).take (sLen * szOf sh') ++ ys).length = sLen * szOf sh' + xs.length := by rw [List.length_append, hsubl, hxl]
        refine ⟨_, w', _, hrun, hext, hr.move hb hlive hext (by rw [hh]; simp) (.inr (Nat.le_refl _)) (by rw [hh]; simp) (fun k hk _ => hkeep k hk) ⟨_, e, (0, 0), hwc, ?_, ?_, by simp, fun h => htag h, hsubc⟩, ?_⟩
        · rw [hfs, hnl, ← hxl, hyl]; simp only [Nat.zero_add]; rw [← Nat.add_mul]; exact Nat.mul_le_mul_right _ hcp
        · rw [hnl]
          have : ((((full.toList.drop (bs + off)).take (sLen * szOf sh')).toArray ++ xs.toArray ++ Builtin.zeroCells zv.cells (cap - (sLen + n)) : Array Value).toList.drop 0).take (sLen * szOf sh' + xs.length) = (full.toList.drop (bs + off)).take (sLen * szOf sh') ++ xs := by
            simp only [List.drop_zero, Array.toList_append, List.toList_toArray]
            rw [List.take_append_of_le_length (by simp only [List.length_append, hol]; omega)]
            exact List.take_of_length_le (by simp only [List.length_append, hol]; omega)
          rw [this]; exact (hsub.append hys).ext hext
        · refine VR.sl (upd_same _ _ _) hcp fun _ => ⟨by simp, _, e, (0, 0), hwc, by rw [hfs]; simp⟩
  · cases h
end
end Go.AM

/- Operations that only reckon; copy and clear. -/
namespace Go.AM
set_option linter.unusedVariables false
set_option linter.unusedSimpArgs false

section
variable {L : Link} {w : World} {ρ : Map} {H : Heap}

theorem max_lit : IntKind.i64.max = 9223372036854775807 := by decide
theorem binop_ok {own : Nat → Prop} {op : BinOp} {t : TypeId} {a b v : AV} {x y : Value} (hx : VR L w ρ own a x) (hy : VR L w ρ own b y) (h : binop op a b = some v) {p q : Operand} :
    ∃ z, (do eqGuard op t p q x y; Go.binOp op t x y : Sem Value).run L.P w = .ok z w ∧ VR L w ρ own v z := by
  unfold binop at h
  split at h
  · rename_i k n k' m
    cases hx; cases hy
    have hg : ∀ op, (eqGuard op t p q (.int k n) (.int k' m)).run L.P w = .ok () w := by intro op; cases op <;> simp [eqGuard]
    split at h
    · split at h
      · cases h
      · rename_i hb; injection h with h; subst h
        refine ⟨_, ?_, .int _ _⟩
        simp [hg, Go.binOp, Op.shift, hb, Nat.min_def]
    · split at h
      · cases h
      · rename_i hb; injection h with h; subst h
        refine ⟨_, ?_, .int _ _⟩
        simp [hg, Go.binOp, Op.shift, hb, Nat.min_def]
    · rename_i h1 h2
      split at h
      · cases h
      · rename_i hk
        have hk' : k = k' := by simpa using hk
        subst hk'
        cases op <;> simp at h h1 h2
        · subst h; exact ⟨_, by simp [hg, Go.binOp, Op.intArith], .int _ _⟩
        · subst h; exact ⟨_, by simp [hg, Go.binOp, Op.intArith], .int _ _⟩
        · subst h; exact ⟨_, by simp [hg, Go.binOp, Op.intArith], .int _ _⟩
        · obtain ⟨h0, h⟩ := h; subst h; exact ⟨_, by simp [hg, Go.binOp, Op.intDiv, h0], .int _ _⟩
        · obtain ⟨h0, h⟩ := h; subst h; exact ⟨_, by simp [hg, Go.binOp, Op.intDiv, h0], .int _ _⟩
        · subst h; exact ⟨.int k (k.wrap (BitVec.ofInt k.bits n &&& BitVec.ofInt k.bits m).toNat), by simp [hg, Go.binOp, Op.intBits], by simpa using VR.int _ _⟩
        · subst h; exact ⟨.int k (k.wrap (BitVec.ofInt k.bits n ||| BitVec.ofInt k.bits m).toNat), by simp [hg, Go.binOp, Op.intBits], by simpa using VR.int _ _⟩
        · subst h; exact ⟨.int k (k.wrap (BitVec.ofInt k.bits n ^^^ BitVec.ofInt k.bits m).toNat), by simp [hg, Go.binOp, Op.intBits], by simpa using VR.int _ _⟩
        · subst h; exact ⟨.int k (k.wrap (BitVec.ofInt k.bits n &&& ~~~ BitVec.ofInt k.bits m).toNat), by simp [hg, Go.binOp, Op.intBits], by simpa using VR.int _ _⟩
        all_goals (subst h; exact ⟨_, by simp [hg, Go.binOp, Op.intCmp], .bool _⟩)
  · rename_i s t'
    cases hx with | str s => cases hy with | str u =>
    have hg : ∀ op, (eqGuard op t p q (.string s) (.string u)).run L.P w = .ok () w := by intro op; cases op <;> simp [eqGuard]
    have e1 : s.toList = s.data.toList := ByteArray.toList_eq s
    have e2 : u.toList = u.data.toList := ByteArray.toList_eq u
    cases op <;> simp only [Option.some.injEq, reduceCtorEq] at h
    · split at h
      case isFalse => cases h
      rename_i hl
      injection h with h
      subst h
      have hs : s.data.size = s.size := rfl
      have hu : u.data.size = u.size := rfl
      have hl1 : s.data.toList.length = s.size := Array.length_toList
      have hl2 : u.data.toList.length = u.size := Array.length_toList
      have hno : ¬ (((s.size + u.size : Nat) : Int) > IntKind.i64.max) := by rw [max_lit]; omega
      refine ⟨.string (s ++ u), by simp only [Sem.run_bind, hg, Result.andThen_ok, Go.binOp, Op.stringOp, if_neg hno, Sem.run_pure], ?_⟩
      have : s.data.toList ++ u.data.toList = (s ++ u).data.toList := by simp [ByteArray.data_append]
      rw [this]; exact .str _
    · subst h; exact ⟨.bool (s.data.toList == u.data.toList), by simp only [Sem.run_bind, hg, Result.andThen_ok, Go.binOp, Op.stringOp, e1, e2, Sem.run_pure], .bool _⟩
    · subst h; exact ⟨.bool (!(s.data.toList == u.data.toList)), by simp only [Sem.run_bind, hg, Result.andThen_ok, Go.binOp, Op.stringOp, e1, e2, Sem.run_pure], .bool _⟩
    · subst h; exact ⟨.bool (Op.bytesLess s.data.toList u.data.toList), by simp only [Sem.run_bind, hg, Result.andThen_ok, Go.binOp, Op.stringOp, e1, e2, Sem.run_pure], .bool _⟩
    · subst h; exact ⟨.bool (Op.bytesLess s.data.toList u.data.toList || s.data.toList == u.data.toList), by simp only [Sem.run_bind, hg, Result.andThen_ok, Go.binOp, Op.stringOp, e1, e2, Sem.run_pure], .bool _⟩
    · subst h; exact ⟨.bool (!(Op.bytesLess s.data.toList u.data.toList || s.data.toList == u.data.toList)), by simp only [Sem.run_bind, hg, Result.andThen_ok, Go.binOp, Op.stringOp, e1, e2, Sem.run_pure], .bool _⟩
    · subst h; exact ⟨.bool (!Op.bytesLess s.data.toList u.data.toList), by simp only [Sem.run_bind, hg, Result.andThen_ok, Go.binOp, Op.stringOp, e1, e2, Sem.run_pure], .bool _⟩
  · cases h

theorem unop_ok {own : Nat → Prop} {op : UnOp} {a v : AV} {x : Value} (hx : VR L w ρ own a x) (h : unop op a = some v) : ∃ z, (Op.unary op x).run L.P w = .ok z w ∧ VR L w ρ own v z := by
  unfold unop at h
  split at h
  · cases hx
    cases op <;> simp at h
    subst h; exact ⟨_, by simp [Op.unary], .bool _⟩
  · rename_i k n
    cases hx
    cases op <;> simp at h
    · subst h; exact ⟨.int k (k.wrap (0 - n)), by simp [Op.unary, Op.intArith], by simpa using VR.int _ _⟩
    · subst h; exact ⟨.int k (k.wrap (BitVec.ofInt k.bits (if k.signed then -1 else k.max) ^^^ BitVec.ofInt k.bits n).toNat), by simp [Op.unary, Op.intBits], by simpa using VR.int _ _⟩
  · cases h

theorem evNat_ok {own : Nat → Prop} {a : AV} {x : Value} {n : Nat} (hx : VR L w ρ own a x) (h : evNat a = some n) : ∃ k, x = .int k (n : Int) := by
  unfold evNat at h
  split at h
  · rename_i k m
    cases hx
    split at h
    · injection h with h; subst h
      exact ⟨k, by congr 1; omega⟩
    · cases h
  · cases h

/-! ### Slices of slices and texts -/
def optNat (d : Nat) : Option AV → Option Nat
  | none => some d
  | some v => evNat v
/-- The bounds of a slice expression, in range. -/
theorem run_bounds {own : Nat → Prop} {isSlice : Bool} {len cap : Nat} {lo hi mx : Option AV} {xlo xhi xmx : Option Value} (hlo : ∀ v, lo = some v → ∃ x, xlo = some x ∧ VR L w ρ own v x) (hlo0 : lo = none → xlo = none)
    (hhi : ∀ v, hi = some v → ∃ x, xhi = some x ∧ VR L w ρ own v x) (hhi0 : hi = none → xhi = none) (hmx : ∀ v, mx = some v → ∃ x, xmx = some x ∧ VR L w ρ own v x) (hmx0 : mx = none → xmx = none)
    {l h m : Nat} (el : optNat 0 lo = some l) (eh : optNat len hi = some h) (em : optNat cap mx = some m) (hmh : mx.isSome = true → hi.isSome = true) (hlh : l ≤ h) (hhm : h ≤ m) (hmc : m ≤ cap) :
    (Instr.sliceBounds isSlice len cap xlo xhi xmx).run L.P w = .ok (l, h, m) w := by
  have one : ∀ (k : IntKind) (n y : Nat) (c : BoundsCode), n ≤ y → (Instr.sliceBound (.int k (n : Int)) y c).run L.P w = .ok n w := by
    intro k n y c hn
    simp [Instr.sliceBound, asIntOf]; omega
  have hl : ∀ c, (match xlo with | some v => Instr.sliceBound v h c | none => Pure.pure 0 : Sem Nat).run L.P w = .ok l w := by
    intro c
    cases lo with
    | none => rw [hlo0 rfl]; simp [optNat] at el; simp [el]
    | some v =>
      obtain ⟨x, h1, h2⟩ := hlo v rfl
      obtain ⟨k, rfl⟩ := evNat_ok h2 (by simpa [optNat] using el)
      rw [h1]; exact one k l h c hlh
  cases mx with
  | none =>
    simp [optNat] at em
    subst em
    have hh : ∀ c, (match xhi with | some v => Instr.sliceBound v cap c | none => Pure.pure len : Sem Nat).run L.P w = .ok h w := by
      intro c
      cases hi with
      | none => rw [hhi0 rfl]; simp [optNat] at eh; simp [eh]
      | some v =>
        obtain ⟨x, h1, h2⟩ := hhi v rfl
        obtain ⟨k, rfl⟩ := evNat_ok h2 (by simpa [optNat] using eh)
        rw [h1]; exact one k h cap c hhm
    rw [hmx0 rfl]
    cases hxh : xhi with
    | none =>
      have := hh .sliceAcap; rw [hxh] at this; simp at this
      simp only [Instr.sliceBounds, Sem.run_bind, Sem.run_pure, Result.andThen_ok, this]
      have := hl .sliceB
      cases hxl : xlo <;> rw [hxl] at this <;> simp_all
    | some xv =>
      have h1 := hh .sliceAcap; have h2 := hh .sliceAlen; rw [hxh] at h1 h2; simp only at h1 h2
      have h3 := hl .sliceB
      simp only [Instr.sliceBounds]
      cases isSlice <;> cases hxl : xlo <;> rw [hxl] at h3 <;> simp_all
  | some mv =>
    obtain ⟨xm, h1, h2⟩ := hmx mv rfl
    obtain ⟨k, rfl⟩ := evNat_ok h2 (by simpa [optNat] using em)
    obtain ⟨hv, rfl⟩ := Option.isSome_iff_exists.1 (hmh rfl)
    obtain ⟨xh, h3, h4⟩ := hhi hv rfl
    obtain ⟨k', rfl⟩ := evNat_ok h4 (by simpa [optNat] using eh)
    subst h1; subst h3
    have h5 := hl .slice3C
    have a1 : ∀ c, (Instr.sliceBound (.int k (m : Int)) cap c).run L.P w = .ok m w := fun c => one k m cap c hmc
    have a2 : ∀ c, (Instr.sliceBound (.int k' (h : Int)) m c).run L.P w = .ok h w := fun c => one k' h m c hhm
    simp only [Instr.sliceBounds]
    cases isSlice <;> cases hxl : xlo <;> rw [hxl] at h5 <;> simp_all
end
end Go.AM
