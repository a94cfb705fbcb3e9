/- Values and documents, as plain data: no program in sight. -/
import Derived.Test.YtbdpkblldffkcaaGreatDoorAd
import Derived.Test.YtbdpkblldffkcaaGreatDoorBb
import Derived.Test.YtbdpkblldffkcaaGreatDoorBa
set_option linter.unusedSectionVars false
set_option linter.unnecessarySimpa false
set_option linter.deprecated false
set_option linter.unusedVariables false
set_option linter.unusedSimpArgs false
namespace Go.AM.T
set_option linter.unusedVariables false
set_option linter.unusedSimpArgs false

inductive Val where
  | mk (k : Int) (s : Str) (it : List Val) (fi : List (Str × Val × Int)) (p : Int)
abbrev PArg := Str × Val × Int
theorem fld_lt {y : PArg} {fi : List PArg} (h : y ∈ fi) : SizeOf.sizeOf y.2.1 < SizeOf.sizeOf fi := by
  have := List.sizeOf_lt_of_mem h
  obtain ⟨n, v, p⟩ := y
  simp at this ⊢; omega
theorem Val.ind {P : Val → Prop} (h : ∀ k s it fi p, (∀ x ∈ it, P x) → (∀ y ∈ fi, P y.2.1) → P (.mk k s it fi p)) : ∀ v, P v
  | .mk k s it fi p => h k s it fi p (fun x hx => Val.ind h x) (fun y hy => Val.ind h y.2.1)
termination_by v => SizeOf.sizeOf v
decreasing_by
  · have := List.sizeOf_lt_of_mem hx; simp; omega
  · have := fld_lt hy; simp; omega
def Val.k : Val → Int | .mk k _ _ _ _ => k
def Val.s : Val → Str | .mk _ s _ _ _ => s
def Val.it : Val → List Val | .mk _ _ it _ _ => it
def Val.fi : Val → List PArg | .mk _ _ _ fi _ => fi
def Val.p : Val → Int | .mk _ _ _ _ p => p
/-- How many values there are in one, itself counted. -/
def Val.w : Val → Nat
  | .mk _ _ it fi _ => 1 + (it.map Val.w).sum + (fi.map fun y => Val.w y.2.1).sum
termination_by v => SizeOf.sizeOf v
decreasing_by
  · rename_i h; have := List.sizeOf_lt_of_mem h; simp; omega
  · rename_i h; have := fld_lt h; simp; omega
theorem Val.w_mk (k s it fi p) : (Val.mk k s it fi p).w = 1 + (it.map Val.w).sum + (fi.map fun y => y.2.1.w).sum := by rw [Val.w]
/-- With texts of so many bytes. -/
def Val.few : Val → Prop
  | .mk _ s it fi _ => s.length ≤ 500 ∧ (∀ x ∈ it, Val.few x) ∧ ∀ y ∈ fi, y.1.length ≤ 100 ∧ Val.few y.2.1
termination_by v => SizeOf.sizeOf v
decreasing_by
  · rename_i h; have := List.sizeOf_lt_of_mem h; simp; omega
  · rename_i h; have := fld_lt h; simp; omega
theorem Val.few_mk (k s it fi p) : (Val.mk k s it fi p).few = (s.length ≤ 500 ∧ (∀ x ∈ it, x.few) ∧ ∀ y ∈ fi, y.1.length ≤ 100 ∧ y.2.1.few) := by rw [Val.few]

structure Dir where
  n : Str
  args : List PArg
  p : Int
inductive Sel where
  | mk (k : Int) (al n : Str) (args : List PArg) (dirs : List Dir) (sels : List Sel) (p : Int)
theorem Sel.ind {P : Sel → Prop} (h : ∀ k al n args dirs sels p, (∀ x ∈ sels, P x) → P (.mk k al n args dirs sels p)) : ∀ v, P v
  | .mk k al n args dirs sels p => h k al n args dirs sels p (fun x hx => Sel.ind h x)
termination_by v => SizeOf.sizeOf v
decreasing_by
  have := List.sizeOf_lt_of_mem hx; simp; omega
structure VarD where
  n : Str
  t : Str
  has : Bool
  v : Val
  p : Int
structure OpD where
  k : Int
  n : Str
  vars : List VarD
  dirs : List Dir
  sels : List Sel
  p : Int
structure FragD where
  n : Str
  on : Str
  dirs : List Dir
  sels : List Sel
  p : Int
structure Doc where
  ops : List OpD
  frags : List FragD

def wArgs (l : List PArg) : Nat := (l.map fun y => 1 + y.2.1.w).sum
def fewArgs (l : List PArg) : Prop := ∀ y ∈ l, y.1.length ≤ 200 ∧ y.2.1.few
def wDirs (l : List Dir) : Nat := (l.map fun d => 1 + wArgs d.args).sum
def fewDirs (l : List Dir) : Prop := ∀ d ∈ l, d.n.length ≤ 200 ∧ fewArgs d.args
def Sel.w : Sel → Nat
  | .mk _ _ _ args dirs sels _ => 1 + wArgs args + wDirs dirs + (sels.map Sel.w).sum
termination_by v => SizeOf.sizeOf v
decreasing_by
  rename_i h; have := List.sizeOf_lt_of_mem h; simp; omega
theorem Sel.w_mk (k al n args dirs sels p) : (Sel.mk k al n args dirs sels p).w = 1 + wArgs args + wDirs dirs + (sels.map Sel.w).sum := by rw [Sel.w]
def Sel.few : Sel → Prop
  | .mk _ al n args dirs sels _ => al.length ≤ 200 ∧ n.length ≤ 200 ∧ fewArgs args ∧ fewDirs dirs ∧ ∀ x ∈ sels, Sel.few x
termination_by v => SizeOf.sizeOf v
decreasing_by
  rename_i h; have := List.sizeOf_lt_of_mem h; simp; omega
theorem Sel.few_mk (k al n args dirs sels p) : (Sel.mk k al n args dirs sels p).few = (al.length ≤ 200 ∧ n.length ≤ 200 ∧ fewArgs args ∧ fewDirs dirs ∧ ∀ x ∈ sels, x.few) := by rw [Sel.few]
end Go.AM.T

/- How the A-machine's values stand to plain data. -/
namespace Go.AM.T
set_option linter.unusedVariables false
set_option linter.unusedSimpArgs false

inductive IsV : AV → Val → Prop
  | mk {k p : Int} {s : Str} {it fi : AV} {xs : List (AV × Val)} {ys : List ((Str × AV × Int) × Val)} : SLike it (xs.map (·.1)) → SLike fi (ys.map fun y => argOf y.1) →
      (∀ x ∈ xs, IsV x.1 x.2) → (∀ y ∈ ys, IsV y.1.2.1 y.2) → xs.length * 80 ≤ BIG → ys.length * 104 ≤ BIG →
      IsV (.agg [I k, .str s, it, fi, I p]) (.mk k s (xs.map (·.2)) (ys.map fun y => (y.1.1, y.2, y.1.2.2)) p)
theorem choose_pairs {α β : Type} {R : α → β → Prop} : ∀ {xs : List α}, (∀ x ∈ xs, ∃ z, R x z) → ∃ ps : List (α × β), ps.map (·.1) = xs ∧ ∀ p ∈ ps, R p.1 p.2
  | [], _ => ⟨[], rfl, by simp⟩
  | x :: r, h => by
    obtain ⟨z, hz⟩ := h x (by simp)
    obtain ⟨ps, h1, h2⟩ := choose_pairs (xs := r) fun y hy => h y (by simp [hy])
    refine ⟨(x, z) :: ps, by simp [h1], ?_⟩
    intro p hp
    rcases List.mem_cons.1 hp with rfl | hp
    · exact hz
    · exact h2 p hp
theorem IsVal.toV {v : AV} (h : IsVal v) : ∃ V, IsV v V := by
  induction h with
  | @mk k p s it fi xs ys hi hf hx hy bx by_ ihx ihy =>
    obtain ⟨ps, h1, h2⟩ := choose_pairs ihx
    obtain ⟨qs, h3, h4⟩ := choose_pairs (R := fun (y : Str × AV × Int) V => IsV y.2.1 V) ihy
    subst h1; subst h3
    refine ⟨_, .mk (xs := ps) (ys := qs) hi ?_ h2 h4 (by simpa using bx) (by simpa using by_)⟩
    rw [List.map_map] at hf
    exact hf
theorem IsV.val {v : AV} {V : Val} (h : IsV v V) : IsVal v := by
  induction h with
  | @mk k p s it fi xs ys hi hf hx hy bx by_ ihx ihy =>
    refine .mk (xs := xs.map (·.1)) (ys := ys.map (·.1)) hi ?_ ?_ ?_ (by simpa using bx) (by simpa using by_)
    · rw [List.map_map]; exact hf
    · intro x hx'; obtain ⟨z, hz, rfl⟩ := List.mem_map.1 hx'; exact ihx z hz
    · intro x hx'; obtain ⟨z, hz, rfl⟩ := List.mem_map.1 hx'; exact ihy z hz
/-- A list of things, in a slice. -/
def IsL {α : Type} (f : AV → α → Prop) (bytes : Nat) (a : AV) (l : List α) : Prop := ∃ xs : List (AV × α), SLike a (xs.map (·.1)) ∧ xs.map (·.2) = l ∧ (∀ x ∈ xs, f x.1 x.2) ∧ xs.length * bytes ≤ BIG
def IsArg (a : AV) (y : PArg) : Prop := ∃ v, a = argOf (y.1, v, y.2.2) ∧ IsV v y.2.1
abbrev IsArgs := IsL IsArg 104
def IsDir (a : AV) (d : Dir) : Prop := ∃ ar, a = .agg [.str d.n, ar, I d.p] ∧ IsArgs ar d.args
abbrev IsDirs := IsL IsDir 48
inductive IsSel : AV → Sel → Prop
  | mk {k p : Int} {al n : Str} {ar di se : AV} {args : List PArg} {dirs : List Dir} {xs : List (AV × Sel)} : IsArgs ar args → IsDirs di dirs → SLike se (xs.map (·.1)) → (∀ x ∈ xs, IsSel x.1 x.2) → xs.length * 120 ≤ BIG →
      IsSel (.agg [I k, .str al, .str n, ar, di, se, I p]) (.mk k al n args dirs (xs.map (·.2)) p)
abbrev IsSels := IsL IsSel 120
def IsVar (a : AV) (d : VarD) : Prop := ∃ v : AV, a = .agg (.str d.n :: .str d.t :: .bool d.has :: (v.cells ++ [I d.p])) ∧ IsV v d.v
abbrev IsVars := IsL IsVar 128
def IsOp (a : AV) (o : OpD) : Prop := ∃ va di se, a = .agg [I o.k, .str o.n, va, di, se, I o.p] ∧ IsVars va o.vars ∧ IsDirs di o.dirs ∧ IsSels se o.sels
abbrev IsOps := IsL IsOp 104
def IsFrag (a : AV) (o : FragD) : Prop := ∃ di se, a = .agg [.str o.n, .str o.on, di, se, I o.p] ∧ IsDirs di o.dirs ∧ IsSels se o.sels
abbrev IsFrags := IsL IsFrag 88
def IsDoc (a : AV) (d : Doc) : Prop := ∃ os fs, a = .agg [os, fs] ∧ IsOps os d.ops ∧ IsFrags fs d.frags
section
variable {α : Type} {R : AV → α → Prop} {b : Nat} {a : AV} {l : List α}
theorem IsL.len (h : IsL R b a l) (H : Heap) : lenA H .sl a = some (.int .i64 ↑l.length) := by
  obtain ⟨xs, h1, rfl, _, _⟩ := h
  rw [h1.len]; simp
theorem IsL.big (h : IsL R b a l) : l.length * b ≤ BIG := by
  obtain ⟨xs, _, rfl, _, h4⟩ := h
  simpa using h4
theorem IsL.short (h : IsL R b a l) (hb : 0 < b) : l.length < 4611686018427387904 := by
  have := h.big
  have h2 : l.length * 1 ≤ l.length * b := Nat.mul_le_mul_left _ hb
  simp only [BIG] at this; omega
theorem IsL.at (h : IsL R b a l) {sh : Option Nat} (hc : ∀ x z, R x z → x.cells.length = szOf sh) {k : IntKind} {i : Nat} (hi : i < l.length) : ∃ x, R x l[i] ∧ iaddrA sh a (.int k ↑i) = some (.dptr x.cells) := by
  obtain ⟨xs, h1, rfl, h3, _⟩ := h
  have hi' : i < xs.length := by simpa using hi
  refine ⟨xs[i].1, by simpa using h3 _ (List.getElem_mem hi'), h1.iaddr ?_ ?_⟩
  · simp [hi']
  · intro x hx; obtain ⟨z, hz, rfl⟩ := List.mem_map.1 hx; exact hc _ _ (h3 z hz)
theorem IsL.noIds (h : IsL R b a l) (hn : ∀ x z, R x z → AV.noIds x = true) : AV.noIds a = true := by
  obtain ⟨xs, h1, rfl, h3, _⟩ := h
  rw [h1.noIds]
  refine noIdsL_of fun v hv => ?_
  obtain ⟨z, hz, rfl⟩ := List.mem_map.1 hv
  exact hn _ _ (h3 z hz)
theorem IsL.cell (h : IsL R b a l) : a.isCell = true := by
  obtain ⟨xs, h1, _⟩ := h
  exact h1.cell
theorem IsL.nil : IsL R b .nils [] := ⟨[], .nils, rfl, by simp, by simp⟩
end
theorem IsArg.cells {a : AV} {y : PArg} (h : IsArg a y) : a.cells.length = 7 := by
  obtain ⟨v, rfl, h⟩ := h
  exact argOf_cells _ h.val
theorem IsV.args {k p : Int} {s : Str} {it fi : AV} {xs : List (AV × Val)} {ys : List ((Str × AV × Int) × Val)} (hf : SLike fi (ys.map fun y => argOf y.1)) (hy : ∀ y ∈ ys, IsV y.1.2.1 y.2) (by_ : ys.length * 104 ≤ BIG) : IsArgs fi (ys.map fun y => (y.1.1, y.2, y.1.2.2)) := by
  refine ⟨ys.map fun y => (argOf y.1, (y.1.1, y.2, y.1.2.2)), ?_, ?_, ?_, by simpa using by_⟩
  · rw [List.map_map]; exact hf
  · rw [List.map_map]; rfl
  · intro x hx; obtain ⟨z, hz, rfl⟩ := List.mem_map.1 hx; exact ⟨z.1.2.1, rfl, hy z hz⟩
/-- A value's parts. -/
theorem IsV.parts {v : AV} {V : Val} (h : IsV v V) : ∃ it fi, v = .agg [I V.k, .str V.s, it, fi, I V.p] ∧ IsL IsV 80 it V.it ∧ IsArgs fi V.fi := by
  cases h with
  | @mk k p s it fi xs ys hi hf hx hy bx by_ =>
    exact ⟨it, fi, rfl, ⟨xs, hi, rfl, hx, bx⟩, IsV.args (k := k) (p := p) (s := s) (it := it) (xs := xs) hf hy by_⟩
theorem IsArg.noIds {a : AV} {y : PArg} (h : IsArg a y) : AV.noIds a = true := by
  obtain ⟨v, rfl, h⟩ := h
  have := h.val.noIds
  simp only [argOf, AV.noIds, AV.noIdsL, Bool.true_and]
  refine noIdsL_of fun c hc => ?_
  rcases List.mem_append.1 hc with hc | hc
  · exact noIds_cells this c hc
  · simp at hc; subst hc; rfl
theorem IsDir.noIds {a : AV} {d : Dir} (h : IsDir a d) : AV.noIds a = true := by
  obtain ⟨ar, rfl, h⟩ := h
  simp [AV.noIds, AV.noIdsL, h.noIds fun _ _ => IsArg.noIds]
theorem IsSel.noIds {a : AV} {d : Sel} (h : IsSel a d) : AV.noIds a = true := by
  induction h with
  | @mk k p al n ar di se args dirs xs h1 h2 h3 h4 h5 ih =>
    have : AV.noIds se = true := by
      rw [h3.noIds]
      refine noIdsL_of fun v hv => ?_
      obtain ⟨z, hz, rfl⟩ := List.mem_map.1 hv
      exact ih z hz
    simp [AV.noIds, AV.noIdsL, h1.noIds fun _ _ => IsArg.noIds, h2.noIds fun _ _ => IsDir.noIds, this]
theorem IsSel.parts {v : AV} {V : Sel} (h : IsSel v V) : ∃ k al n args dirs sels p ar di se, V = .mk k al n args dirs sels p ∧ v = .agg [I k, .str al, .str n, ar, di, se, I p] ∧ IsArgs ar args ∧ IsDirs di dirs ∧ IsSels se sels := by
  cases h with
  | @mk k p al n ar di se args dirs xs h1 h2 h3 h4 h5 =>
    exact ⟨k, al, n, args, dirs, _, p, ar, di, se, rfl, rfl, h1, h2, xs, h3, rfl, h4, h5⟩
theorem IsVar.noIds {a : AV} {d : VarD} (h : IsVar a d) : AV.noIds a = true := by
  obtain ⟨v, rfl, h⟩ := h
  have := h.val.noIds
  simp only [AV.noIds, AV.noIdsL, Bool.true_and]
  refine noIdsL_of fun c hc => ?_
  rcases List.mem_append.1 hc with hc | hc
  · exact noIds_cells this c hc
  · simp at hc; subst hc; rfl
theorem IsOp.noIds {a : AV} {d : OpD} (h : IsOp a d) : AV.noIds a = true := by
  obtain ⟨va, di, se, rfl, h1, h2, h3⟩ := h
  simp [AV.noIds, AV.noIdsL, h1.noIds fun _ _ => IsVar.noIds, h2.noIds fun _ _ => IsDir.noIds, h3.noIds fun _ _ => IsSel.noIds]
theorem IsFrag.noIds {a : AV} {d : FragD} (h : IsFrag a d) : AV.noIds a = true := by
  obtain ⟨di, se, rfl, h2, h3⟩ := h
  simp [AV.noIds, AV.noIdsL, h2.noIds fun _ _ => IsDir.noIds, h3.noIds fun _ _ => IsSel.noIds]
theorem IsDoc.noIds {a : AV} {d : Doc} (h : IsDoc a d) : AV.noIds a = true := by
  obtain ⟨os, fs, rfl, h2, h3⟩ := h
  simp [AV.noIds, AV.noIdsL, h2.noIds fun _ _ => IsOp.noIds, h3.noIds fun _ _ => IsFrag.noIds]
end Go.AM.T

/- Contracts: are these few? If so, so much is in them. -/
namespace Go.AM.T
set_option linter.unusedVariables false
set_option linter.unusedSimpArgs false
set_option maxRecDepth 100000

theorem mkv_append {n : Nat} {cs B : List AV} {v : AV} (h1 : cs.length = n) (h : mkv (some n) cs = some v) : mkv (some n) (cs ++ B) = some v := by
  subst h1; rw [← h]; simp [mkv]
theorem subI (a b : Int) : binop .sub (.int .i64 a) (.int .i64 b) = some (I (IntKind.wrap .i64 (a - b))) := by simp [binop]
theorem addI (a b : Int) : binop .add (.int .i64 a) (.int .i64 b) = some (I (IntKind.wrap .i64 (a + b))) := by simp [binop]
theorem load_part {H : Heap} {b off m : Nat} {cs : List AV} {v : AV} (hb : H[b]? = some (.cells cs)) (hv : mkv (some m) (cs.drop off) = some v) : loadA (some m) (.ptr b off) H = some v := by
  simp only [loadA, hb, hv]
theorem load_dp {cs : List AV} {m : Nat} {v : AV} (H : Heap) (hv : mkv (some m) cs = some v) : loadA (some m) (.dptr cs) H = some v := hv
/-- All but one block stays as it is. -/
structure Kp (b : Nat) (H H' : Heap) : Prop where
  len : H.length ≤ H'.length
  old : ∀ c cs, c ≠ b → H[c]? = some (.cells cs) → H'[c]? = some (.cells cs)
theorem Kp.trans {b H1 H2 H3} (h : Kp b H1 H2) (k : Kp b H2 H3) : Kp b H1 H3 := ⟨Nat.le_trans h.len k.len, fun c cs hn hc => k.old c cs hn (h.old c cs hn hc)⟩
theorem Kp.refl {b H} : Kp b H H := ⟨Nat.le_refl _, fun _ _ _ h => h⟩
theorem Kp.grow {b H} (X : Heap) : Kp b H (H ++ X) := ⟨by simp, fun c cs _ hc => getElem?_grow hc X⟩
theorem Kp.set {b H} (x : Blk) : Kp b H (H.set b x) := ⟨by simp, fun c cs hn hc => by rw [List.getElem?_set_ne (Ne.symm hn)]; exact hc⟩
theorem Kp.at {b c H H' x} (h : Kp b H H') (hc : H[c]? = some (.cells x)) (hn : c ≠ b) : H'[c]? = some (.cells x) := h.old c x hn hc
/-- What such a question comes to. -/
def FewQ (b : Nat) (H : Heap) (m : Int) (w : Nat) (G : Prop) (v : AV) (H' : Heap) : Prop :=
  ∃ (q : Bool) (m' : Int), v = .bool q ∧ Kp b H H' ∧ H'[b]? = some (.cells [I m']) ∧ (q = true → G ∧ 0 ≤ m' ∧ m' + w ≤ m)
theorem FewQ.no {b : Nat} {H H' : Heap} {m m' : Int} {w : Nat} {G : Prop} (k : Kp b H H') (h : H'[b]? = some (.cells [I m'])) : FewQ b H m w G (.bool false) H' :=
  ⟨false, m', rfl, k, h, by simp⟩
theorem set_self {H : Heap} {b : Nat} {x : Blk} (h : b < H.length) : (H.set b x)[b]? = some x := by rw [List.getElem?_set_self h]
theorem sum_take_succ {α : Type} (f : α → Nat) {l : List α} {i : Nat} (h : i < l.length) : ((l.take (i + 1)).map f).sum = ((l.take i).map f).sum + f l[i] := by
  rw [← List.take_append_getElem h, List.map_append, List.sum_append]; simp
theorem sum_take_all {α : Type} (f : α → Nat) {l : List α} {i : Nat} (h : l.length ≤ i) : ((l.take i).map f).sum = (l.map f).sum := by rw [List.take_of_length_le h]
theorem all_take_succ {α : Type} {P : α → Prop} {l : List α} {i : Nat} (h : i < l.length) (hp : ∀ x ∈ l.take i, P x) (hx : P l[i]) : ∀ x ∈ l.take (i + 1), P x := by
  intro x hm
  rw [← List.take_append_getElem h] at hm
  rcases List.mem_append.1 hm with hm | hm
  · exact hp x hm
  · rw [List.mem_singleton] at hm; subst hm; exact hx
theorem r56 {V : Val} : ∀ {v : AV}, IsV v V → ∀ {H : Heap} {b : Nat} {m : Int} (d : Int), 0 ≤ m → m < 4611686018427387904 → H[b]? = some (.cells [I m]) → ∃ r H', FewQ b H m V.w V.few r H' ∧ Ret env 56 [v, .ptr b 0, I d] H r H' := by
  induction V using Val.ind with
  | h k s xs ys p ihx ihy =>
  intro v hV H b m d hm0 hm1 hb
  have hv := hV.val
  obtain ⟨it, fi, rfl, hi, hf⟩ := hV.parts
  simp only [Val.k, Val.s, Val.p, Val.it, Val.fi] at *
  have hbl : b < H.length := (List.getElem?_eq_some_iff.1 hb).1
  refine Ret.openQ (f := c56) rfl rfl rfl (Eq.mpr (x56 _ _ _ _ _ _) ?_)
  rw [boxP_agg _ _ _ (by simpa [AV.cells] using hv.allCell)]
  have k1 := Kp.grow (b := b) (H := H) [.cells [I k, .str s, it, fi, I p]]
  have g1 := getElem?_grow hb [.cells [I k, .str s, it, fi, I p]]
  have hv1 : (H ++ [Blk.cells [I k, .str s, it, fi, I p]])[H.length]? = some (.cells [I k, .str s, it, fi, I p]) := by simp
  refine ⟨_, rfl, _, load_cells g1 rfl, _, subI _ _, _, rfl, _, store_cells (cs := [I m]) g1 (by simp) rfl, ?_⟩
  rw [wrap64 (by omega) (by omega)]
  have k2 := k1.trans (Kp.set (b := b) (.cells [I (m - 1)]))
  have g2 : ((H ++ [Blk.cells [I k, .str s, it, fi, I p]]).set b (.cells [I (m - 1)]))[H.length]? = some (.cells [I k, .str s, it, fi, I p]) := by
    rw [List.getElem?_set_ne (by omega)]; exact hv1
  have g3 : ((H ++ [Blk.cells [I k, .str s, it, fi, I p]]).set b (.cells [I (m - 1)]))[b]? = some (.cells [I (m - 1)]) := by
    rw [List.getElem?_set_self (by rw [List.length_append]; omega)]
  show getP _ _
  generalize hH2 : (H ++ [Blk.cells [I k, .str s, it, fi, I p]]).set b (.cells ([I m].set 0 (I (m - 1)))) = H2
  have hH2' : (H ++ [Blk.cells [I k, .str s, it, fi, I p]]).set b (.cells [I (m - 1)]) = H2 := hH2
  rw [hH2'] at k2 g2 g3
  rw [Val.w_mk, Val.few_mk]
  generalize hW : 1 + (xs.map Val.w).sum + (ys.map fun y => y.2.1.w).sum = W
  have no : ∀ {H3 G m'}, Kp b H2 H3 → H3[b]? = some (.cells [I m']) → FewQ b H m W G (.bool false) H3 := fun h g => FewQ.no (k2.trans h) g
  have kr : Kp b H2 H2 := Kp.refl
  refine ⟨_, rfl, _, load_cells g3 rfl, _, lssI _ _ _, ?_⟩
  refine splitB_bool (fun _ => no kr g3) fun hm2 => ?_
  have hm2 : 0 ≤ m - 1 := by have := of_decide_eq_false hm2; omega
  refine ⟨_, gtrI _ _ _, ?_⟩
  refine splitB_bool (fun _ => no kr g3) fun _ => ?_
  refine ⟨_, rfl, .str s, load_cells g2 rfl, _, rfl, _, gtrI _ _ _, ?_⟩
  refine splitB_bool (fun _ => no kr g3) fun hsl => ?_
  have hsl : s.length ≤ 500 := by have := of_decide_eq_false hsl; omega
  refine ⟨_, rfl, it, load_cells g2 rfl, _, hi.len _, _, gtrI _ _ _, ?_⟩
  refine splitB_bool (fun _ => no kr g3) fun _ => ?_
  refine ⟨_, rfl, fi, load_cells g2 rfl, _, hf.len _, _, gtrI _ _ _, ?_⟩
  refine splitB_bool (fun _ => no kr g3) fun _ => ?_
  refine ⟨_, rfl, it, load_cells g2 rfl, _, hi.len _, ?_⟩
  refine ⟨fun n f H3 => ∃ (i : Nat) (m' : Int), i + n = xs.length ∧ f 43 = I ↑i ∧ Kp b H2 H3 ∧ H3[b]? = some (.cells [I m']) ∧ 0 ≤ m' ∧ m' + ((xs.take i).map Val.w).sum ≤ m - 1 ∧ ∀ x ∈ xs.take i, x.few, ⟨xs.length, 0, m - 1, by simp, rfl, kr, g3, hm2, by simp, by simp⟩, ?_⟩
  rintro n f H3 ⟨i, m', hi', h16, k3, g5, hm', hw', hfw⟩
  have g4 := k3.at g2 (by omega)
  rw [h16, lssI, getP_some, splitB_iff]
  refine ⟨fun hlt => ?_, fun hlt => ?_⟩
  · have hlt : i < xs.length := by simpa using hlt
    obtain ⟨x, hx, ha⟩ := hi.at (sh := some 5) (fun _ _ h => h.val.cells.1) (k := .i64) hlt
    refine ⟨_, rfl, it, load_cells g4 rfl, _, ha, x, load_dp _ hx.val.cells.2, _, addI _ _, ?_⟩
    obtain ⟨r, H4, ⟨q, m4, rfl, k4, g6, hq⟩, hr⟩ := ihx _ (List.getElem_mem hlt) hx (IntKind.wrap .i64 (d + 1)) hm' (by omega) g5
    refine ⟨_, _, hr, _, notB _, ?_⟩
    refine splitB_bool (fun _ => no (k3.trans k4) g6) fun hq' => ?_
    obtain ⟨q1, q2, q3⟩ := hq (by simpa using hq')
    have := hi.short (by decide)
    rw [add1 (by omega), getP_some]
    exact ⟨n - 1, by omega, i + 1, m4, by omega, rfl, k3.trans k4, g6, q2, by rw [sum_take_succ _ hlt]; push_cast; omega, all_take_succ hlt hfw q1⟩
  · have hge : xs.length ≤ i := by have := of_decide_eq_false hlt; omega
    rw [sum_take_all _ hge] at hw'
    rw [List.take_of_length_le hge] at hfw
    refine ⟨_, rfl, fi, load_cells g4 rfl, _, hf.len _, ?_⟩
    refine ⟨fun n f H3 => ∃ (i : Nat) (m2 : Int), i + n = ys.length ∧ f 60 = I ↑i ∧ Kp b H2 H3 ∧ H3[b]? = some (.cells [I m2]) ∧ 0 ≤ m2 ∧ m2 + ((ys.take i).map fun y => y.2.1.w).sum ≤ m' ∧ ∀ y ∈ ys.take i, y.1.length ≤ 100 ∧ y.2.1.few, ⟨ys.length, 0, m', by simp, rfl, k3, g5, hm', by simp, by simp⟩, ?_⟩
    clear k3 g4 g5
    rintro n2 f2 H3 ⟨i, m2, hi', h16, k3, g5, hm2', hw2, hfw2⟩
    have g4 := k3.at g2 (by omega)
    rw [h16, lssI, getP_some, splitB_iff]
    refine ⟨fun hlt => ?_, fun hlt => ?_⟩
    · have hlt : i < ys.length := by simpa using hlt
      obtain ⟨_, ⟨y, rfl, hy⟩, ha⟩ := hf.at (sh := some 7) (fun _ _ h => h.cells) (k := .i64) hlt
      refine ⟨_, rfl, fi, load_cells g4 rfl, _, ha, _, rfl, .str ys[i].1, rfl, _, rfl, _, gtrI _ _ _, ?_⟩
      refine splitB_bool (fun _ => no k3 g5) fun hnl => ?_
      have hnl : ys[i].1.length ≤ 100 := by have := of_decide_eq_false hnl; omega
      refine ⟨_, rfl, fi, load_cells g4 rfl, _, ha, _, rfl, y, ?_, _, addI _ _, ?_⟩
      · exact mkv_append hy.val.cells.1 hy.val.cells.2
      obtain ⟨r, H4, ⟨q, m4, rfl, k4, g6, hq⟩, hr⟩ := ihy _ (List.getElem_mem hlt) hy (IntKind.wrap .i64 (d + 1)) hm2' (by omega) g5
      refine ⟨_, _, hr, _, notB _, ?_⟩
      refine splitB_bool (fun _ => no (k3.trans k4) g6) fun hq' => ?_
      obtain ⟨q1, q2, q3⟩ := hq (by simpa using hq')
      have := hf.short (by decide)
      rw [add1 (by omega), getP_some]
      exact ⟨n2 - 1, by omega, i + 1, m4, by omega, rfl, k3.trans k4, g6, q2, by rw [sum_take_succ _ hlt]; push_cast; omega, all_take_succ hlt hfw2 ⟨hnl, q1⟩⟩
    · have hge2 : ys.length ≤ i := by have := of_decide_eq_false hlt; omega
      rw [sum_take_all _ hge2] at hw2
      rw [List.take_of_length_le hge2] at hfw2
      exact ⟨true, m2, rfl, k2.trans k3, g5, fun _ => ⟨⟨hsl, hfw, hfw2⟩, hm2', by subst hW; push_cast; omega⟩⟩
end Go.AM.T

/- Contracts: is a document few? -/
namespace Go.AM.T
set_option linter.unusedVariables false
set_option linter.unusedSimpArgs false
set_option maxRecDepth 100000

theorem box_copy {z cs : List AV} {n : Nat} (hz : z.length = n) (hzc : z.all AV.isCell = true) (hc : cs.length = n) (hcc : cs.all AV.isCell = true) {H : Heap} {K : AV → Heap → Prop} (h : K (.ptr H.length 0) (H ++ [.cells cs])) :
    boxP (.agg z) H (fun p h => getH (storeA n p (.agg cs) h) fun h' => K p h') := by
  rw [boxP_agg _ _ _ hzc]
  have e1 := store_cells0 (H := H ++ [Blk.cells z]) (b := H.length) (n := n) (cs := z) (vs := cs) (by simp) hz hc hcc
  rw [set_last] at e1
  exact ⟨_, e1, h⟩
theorem left_box {H : Heap} {b : Nat} {m : Int} (g : H[b]? = some (.cells [I m])) (cs : List AV) (m2 : Int) :
    ((H ++ [Blk.cells cs]).set b (.cells [I m2]))[b]? = some (.cells [I m2]) ∧ ((H ++ [Blk.cells cs]).set b (.cells [I m2]))[H.length]? = some (.cells cs) ∧ Kp b H ((H ++ [Blk.cells cs]).set b (.cells [I m2])) ∧ b < H.length := by
  have hb : b < H.length := (List.getElem?_eq_some_iff.1 g).1
  refine ⟨by rw [List.getElem?_set_self (by simp; omega)], ?_, (Kp.grow [.cells cs]).trans (Kp.set _), hb⟩
  rw [List.getElem?_set_ne (by omega)]; simp
theorem left_store {H : Heap} {b : Nat} {m : Int} (g : H[b]? = some (.cells [I m])) (cs : List AV) (m2 : Int) : storeA 1 (.ptr b 0) (I m2) (H ++ [Blk.cells cs]) = some ((H ++ [Blk.cells cs]).set b (.cells [I m2])) := by
  have g1 := getElem?_grow g [Blk.cells cs]
  exact store_cells (cs := [I m]) g1 (by simp) rfl
theorem left_load {H : Heap} {b : Nat} {m : Int} (g : H[b]? = some (.cells [I m])) : loadA none (.ptr b 0) H = some (I m) := load_cells g rfl
theorem r55 {v : AV} {V : Val} (h : IsV v V) (H : Heap) : ∃ r, (∃ q : Bool, r = .bool q ∧ (q = true → V.few)) ∧ Ret env 55 [v] H r H := by
  refine Ret.isoQ (f := c55) rfl rfl rfl (PubL.plain (by simp [AV.noIdsL, h.val.noIds])) (Eq.mpr (x55 _ _ _ _) ?_)
  obtain ⟨cs, rfl, hcl⟩ : ∃ cs, v = .agg cs ∧ cs.length = 5 := by cases h; exact ⟨_, rfl, rfl⟩
  rw [boxP_agg _ _ _ (by simpa [AV.cells] using h.val.allCell), boxP_cell _ _ _ rfl]
  refine ⟨_, store_cells (b := 1) (cs := [I 0]) rfl (by simp) rfl, .agg cs, load_cells0 (b := 0) rfl hcl, ?_⟩
  obtain ⟨r, H', ⟨q, m', rfl, _, _, hq⟩, hr⟩ := r56 h (H := [.cells cs, .cells [I 400]]) (b := 1) (m := 400) 0 (by decide) (by decide) rfl
  exact ⟨_, _, hr, .bool q, Pub.scalar rfl, q, rfl, fun e => (hq e).1⟩
theorem r38 {v : AV} {V : Val} (h : IsV v V) {H : Heap} {b : Nat} {m : Int} (hm0 : 0 ≤ m) (hm1 : m < 4611686018427387904) (hb : H[b]? = some (.cells [I m])) : ∃ r H', FewQ b H m V.w V.few r H' ∧ Ret env 38 [v, .ptr b 0] H r H' := by
  have hbl : b < H.length := (List.getElem?_eq_some_iff.1 hb).1
  refine Ret.openQ (f := c38) rfl rfl rfl (Eq.mpr (x38 _ _ _ _ _) ?_)
  obtain ⟨cs, rfl, hcl⟩ : ∃ cs, v = .agg cs ∧ cs.length = 5 := by cases h; exact ⟨_, rfl, rfl⟩
  rw [boxP_agg _ _ _ (by simpa [AV.cells] using h.val.allCell)]
  have g1 := getElem?_grow hb [.cells cs]
  have k1 := Kp.grow (b := b) (H := H) [.cells cs]
  obtain ⟨r, ⟨q, rfl, _⟩, hr⟩ := r55 h (H ++ [.cells cs])
  refine ⟨.agg cs, load_cells0 (cs := cs) (by simp) hcl, _, _, hr, ?_⟩
  refine splitB_bool (fun _ => ?_) fun _ => FewQ.no k1 g1
  obtain ⟨r, H', ⟨q, m', rfl, k2, g2, hq⟩, hr⟩ := r56 h 0 hm0 hm1 g1
  exact ⟨.agg cs, load_cells0 (cs := cs) (by simp) hcl, _, _, hr, q, m', rfl, k1.trans k2, g2, hq⟩
theorem IsArg.all {a : AV} {y : PArg} (h : IsArg a y) : ∃ v, a = .agg (.str y.1 :: (v.cells ++ [I y.2.2])) ∧ IsV v y.2.1 ∧ (AV.str y.1 :: (v.cells ++ [I y.2.2])).length = 7 ∧ (AV.str y.1 :: (v.cells ++ [I y.2.2])).all AV.isCell = true := by
  obtain ⟨v, rfl, h⟩ := h
  refine ⟨v, rfl, h, by simp [h.val.cells.1], ?_⟩
  have := h.val.allCell
  simp only [List.all_cons, List.all_append, this]; rfl
theorem r155 {a : AV} {l : List PArg} (h : IsArgs a l) {H : Heap} {b : Nat} {m : Int} (hm0 : 0 ≤ m) (hm1 : m < 4611686018427387904) (hb : H[b]? = some (.cells [I m])) : ∃ r H', FewQ b H m (wArgs l) (fewArgs l) r H' ∧ Ret env 155 [a, .ptr b 0] H r H' := by
  refine Ret.openQ (f := c155) rfl rfl rfl (Eq.mpr (x155 _ _ _ _ _) ?_)
  have no : ∀ {H3 m'}, Kp b H H3 → H3[b]? = some (.cells [I m']) → FewQ b H m (wArgs l) (fewArgs l) (.bool false) H3 := fun h g => FewQ.no h g
  refine ⟨_, h.len _, ?_⟩
  refine ⟨fun n f H3 => ∃ (i : Nat) (m' : Int), i + n = l.length ∧ f 9 = I ↑i ∧ Kp b H H3 ∧ H3[b]? = some (.cells [I m']) ∧ 0 ≤ m' ∧ m' + wArgs (l.take i) ≤ m ∧ fewArgs (l.take i), ⟨l.length, 0, m, by simp, rfl, Kp.refl, hb, hm0, by simp [wArgs], by simp [fewArgs]⟩, ?_⟩
  rintro n f H3 ⟨i, m', hi, h9, k3, g3, hm', hw', hf'⟩
  rw [h9, lssI, getP_some, splitB_iff]
  refine ⟨fun hlt => ?_, fun hge => ?_⟩
  · have hlt : i < l.length := by simpa using hlt
    obtain ⟨x, hx, ha⟩ := h.at (sh := some 7) (fun _ _ h => h.cells) (k := .i64) hlt
    obtain ⟨v, rfl, hv, hl7, hall⟩ := hx.all
    refine ⟨_, ha, _, load_dn hl7 _, box_copy rfl rfl hl7 hall ?_⟩
    have g4 := getElem?_grow g3 [.cells (AV.str l[i].1 :: (v.cells ++ [I l[i].2.2]))]
    refine ⟨_, rfl, _, left_load g4, _, subI _ _, _, rfl, ?_⟩
    rw [wrap64 (by omega) (by omega)]
    refine ⟨_, left_store g3 _ _, ?_⟩
    obtain ⟨g5, g6, k5, hbl⟩ := left_box g3 (AV.str l[i].1 :: (v.cells ++ [I l[i].2.2])) (m' - 10)
    generalize (H3 ++ [Blk.cells (AV.str l[i].1 :: (v.cells ++ [I l[i].2.2]))]).set b (.cells [I (m' - 10)]) = H5 at g5 g6 k5 ⊢
    have kk := k3.trans k5
    refine ⟨_, rfl, _, left_load g5, _, lssI _ _ _, splitB_bool (fun _ => no kk g5) fun hm2 => ?_⟩
    have hm2 : 0 ≤ m' - 10 := by have := of_decide_eq_false hm2; omega
    refine ⟨_, rfl, .str l[i].1, load_cells g6 rfl, _, rfl, _, gtrI _ _ _, splitB_bool (fun _ => no kk g5) fun hnl => ?_⟩
    have hnl : l[i].1.length ≤ 200 := by have := of_decide_eq_false hnl; omega
    refine ⟨_, rfl, v, load_part g6 (mkv_append hv.val.cells.1 hv.val.cells.2), ?_⟩
    obtain ⟨r, H6, ⟨q, m6, rfl, k6, g7, hq⟩, hr⟩ := r38 hv hm2 (by omega) g5
    refine ⟨_, _, hr, _, notB _, splitB_bool (fun _ => no (kk.trans k6) g7) fun hq' => ?_⟩
    obtain ⟨q1, q2, q3⟩ := hq (by simpa using hq')
    have := h.short (by decide)
    rw [add1 (by omega), getP_some]
    refine ⟨n - 1, by omega, i + 1, m6, by omega, rfl, kk.trans k6, g7, q2, ?_, all_take_succ hlt hf' ⟨hnl, q1⟩⟩
    have e : wArgs (l.take (i + 1)) = wArgs (l.take i) + (1 + l[i].2.1.w) := sum_take_succ _ hlt
    rw [e]; push_cast; omega
  · have hge : l.length ≤ i := by have := of_decide_eq_false hge; omega
    rw [List.take_of_length_le hge] at hw' hf'
    exact ⟨true, m', rfl, k3, g3, fun _ => ⟨hf', hm', hw'⟩⟩
end Go.AM.T

/- Contracts: are directives, selections, a document few? -/
namespace Go.AM.T
set_option linter.unusedVariables false
set_option linter.unusedSimpArgs false
set_option maxRecDepth 100000

theorem r144 {a : AV} {l : List Dir} (h : IsDirs a l) {H : Heap} {b : Nat} {m : Int} (hm0 : 0 ≤ m) (hm1 : m < 4611686018427387904) (hb : H[b]? = some (.cells [I m])) : ∃ r H', FewQ b H m (wDirs l) (fewDirs l) r H' ∧ Ret env 144 [a, .ptr b 0] H r H' := by
  refine Ret.openQ (f := c144) rfl rfl rfl (Eq.mpr (x144 _ _ _ _ _) ?_)
  have no : ∀ {H3 m'}, Kp b H H3 → H3[b]? = some (.cells [I m']) → FewQ b H m (wDirs l) (fewDirs l) (.bool false) H3 := fun h g => FewQ.no h g
  refine ⟨_, h.len _, ?_⟩
  refine ⟨fun n f H3 => ∃ (i : Nat) (m' : Int), i + n = l.length ∧ f 9 = I ↑i ∧ Kp b H H3 ∧ H3[b]? = some (.cells [I m']) ∧ 0 ≤ m' ∧ m' + wDirs (l.take i) ≤ m ∧ fewDirs (l.take i), ⟨l.length, 0, m, by simp, rfl, Kp.refl, hb, hm0, by simp [wDirs], by simp [fewDirs]⟩, ?_⟩
  rintro n f H3 ⟨i, m', hi, h9, k3, g3, hm', hw', hf'⟩
  rw [h9, lssI, getP_some, splitB_iff]
  refine ⟨fun hlt => ?_, fun hge => ?_⟩
  · have hlt : i < l.length := by simpa using hlt
    obtain ⟨_, ⟨ar, rfl, har⟩, ha⟩ := h.at (sh := some 3) (fun x z h => by obtain ⟨ar, rfl, _⟩ := h; rfl) (k := .i64) hlt
    have hall : ([AV.str l[i].n, ar, I l[i].p]).all AV.isCell = true := by simp only [List.all_cons, List.all_nil, har.cell]; rfl
    refine ⟨_, ha, _, load_dn (cs := [AV.str l[i].n, ar, I l[i].p]) (n := 3) rfl _, box_copy (cs := [AV.str l[i].n, ar, I l[i].p]) (n := 3) rfl rfl rfl hall ?_⟩
    have g4 := getElem?_grow g3 [.cells [AV.str l[i].n, ar, I l[i].p]]
    refine ⟨_, rfl, _, left_load g4, _, subI _ _, _, rfl, ?_⟩
    rw [wrap64 (by omega) (by omega)]
    refine ⟨_, left_store g3 _ _, ?_⟩
    obtain ⟨g5, g6, k5, hbl⟩ := left_box g3 [AV.str l[i].n, ar, I l[i].p] (m' - 10)
    generalize (H3 ++ [Blk.cells [AV.str l[i].n, ar, I l[i].p]]).set b (.cells [I (m' - 10)]) = H5 at g5 g6 k5 ⊢
    have kk := k3.trans k5
    refine ⟨_, rfl, _, left_load g5, _, lssI _ _ _, splitB_bool (fun _ => no kk g5) fun hm2 => ?_⟩
    have hm2 : 0 ≤ m' - 10 := by have := of_decide_eq_false hm2; omega
    refine ⟨_, rfl, .str l[i].n, load_cells g6 rfl, _, rfl, _, gtrI _ _ _, splitB_bool (fun _ => no kk g5) fun hnl => ?_⟩
    have hnl : l[i].n.length ≤ 200 := by have := of_decide_eq_false hnl; omega
    refine ⟨_, rfl, ar, load_cells g6 rfl, ?_⟩
    obtain ⟨r, H6, ⟨q, m6, rfl, k6, g7, hq⟩, hr⟩ := r155 har hm2 (by omega) g5
    refine ⟨_, _, hr, _, notB _, splitB_bool (fun _ => no (kk.trans k6) g7) fun hq' => ?_⟩
    obtain ⟨q1, q2, q3⟩ := hq (by simpa using hq')
    have := h.short (by decide)
    rw [add1 (by omega), getP_some]
    refine ⟨n - 1, by omega, i + 1, m6, by omega, rfl, kk.trans k6, g7, q2, ?_, all_take_succ hlt hf' ⟨hnl, q1⟩⟩
    have e : wDirs (l.take (i + 1)) = wDirs (l.take i) + (1 + wArgs l[i].args) := sum_take_succ _ hlt
    rw [e]; push_cast; omega
  · have hge : l.length ≤ i := by have := of_decide_eq_false hge; omega
    rw [List.take_of_length_le hge] at hw' hf'
    exact ⟨true, m', rfl, k3, g3, fun _ => ⟨hf', hm', hw'⟩⟩
def wSels (l : List Sel) : Nat := (l.map Sel.w).sum
def fewSels (l : List Sel) : Prop := ∀ x ∈ l, x.few
def Sel.sub : Sel → List Sel | .mk _ _ _ _ _ s _ => s
def FewSelsOk (l : List Sel) : Prop := ∀ (a : AV), IsSels a l → ∀ (H : Heap) (b : Nat) (m : Int) (d : Int), 0 ≤ m → m < 4611686018427387904 → H[b]? = some (.cells [I m]) → ∃ r H', FewQ b H m (wSels l) (fewSels l) r H' ∧ Ret env 145 [a, .ptr b 0, I d] H r H'
theorem r145_step {l : List Sel} (ih : ∀ x ∈ l, FewSelsOk x.sub) : FewSelsOk l := by
  intro a h H b m d hm0 hm1 hb
  refine Ret.openQ (f := c145) rfl rfl rfl (Eq.mpr (x145 _ _ _ _ _ _) ?_)
  have no : ∀ {H3 m'}, Kp b H H3 → H3[b]? = some (.cells [I m']) → FewQ b H m (wSels l) (fewSels l) (.bool false) H3 := fun h g => FewQ.no h g
  refine ⟨_, h.len _, ?_⟩
  refine ⟨fun n f H3 => ∃ (i : Nat) (m' : Int), i + n = l.length ∧ f 11 = I ↑i ∧ Kp b H H3 ∧ H3[b]? = some (.cells [I m']) ∧ 0 ≤ m' ∧ m' + wSels (l.take i) ≤ m ∧ fewSels (l.take i), ⟨l.length, 0, m, by simp, rfl, Kp.refl, hb, hm0, by simp [wSels], by simp [fewSels]⟩, ?_⟩
  rintro n f H3 ⟨i, m', hi, h9, k3, g3, hm', hw', hf'⟩
  rw [h9, lssI, getP_some, splitB_iff]
  refine ⟨fun hlt => ?_, fun hge => ?_⟩
  · have hlt : i < l.length := by simpa using hlt
    obtain ⟨x, hx, ha⟩ := h.at (sh := some 7) (fun x z h => by cases h; rfl) (k := .i64) hlt
    obtain ⟨k, al, nm, args, dirs, sels, p, ar, di, se, hV, rfl, har, hdi, hse⟩ := hx.parts
    have ihx := ih l[i] (List.getElem_mem hlt)
    rw [hV] at ihx
    have hall : ([I k, AV.str al, .str nm, ar, di, se, I p]).all AV.isCell = true := by simp only [List.all_cons, List.all_nil, har.cell, hdi.cell, hse.cell]; rfl
    refine ⟨_, ha, _, load_dn (cs := [I k, AV.str al, .str nm, ar, di, se, I p]) (n := 7) rfl _, box_copy (cs := [I k, AV.str al, .str nm, ar, di, se, I p]) (n := 7) rfl rfl rfl hall ?_⟩
    have g4 := getElem?_grow g3 [.cells [I k, AV.str al, .str nm, ar, di, se, I p]]
    refine ⟨_, rfl, _, left_load g4, _, subI _ _, _, rfl, ?_⟩
    rw [wrap64 (by omega) (by omega)]
    refine ⟨_, left_store g3 _ _, ?_⟩
    obtain ⟨g5, g6, k5, hbl⟩ := left_box g3 [I k, AV.str al, .str nm, ar, di, se, I p] (m' - 10)
    generalize (H3 ++ [Blk.cells [I k, AV.str al, .str nm, ar, di, se, I p]]).set b (.cells [I (m' - 10)]) = H5 at g5 g6 k5 ⊢
    have kk := k3.trans k5
    have hcb : H3.length ≠ b := by omega
    refine ⟨_, rfl, _, left_load g5, _, lssI _ _ _, splitB_bool (fun _ => no kk g5) fun hm2 => ?_⟩
    have hm2 : 0 ≤ m' - 10 := by have := of_decide_eq_false hm2; omega
    refine ⟨_, gtrI _ _ _, splitB_bool (fun _ => no kk g5) fun _ => ?_⟩
    refine ⟨_, rfl, .str nm, load_cells g6 rfl, _, rfl, _, gtrI _ _ _, splitB_bool (fun _ => no kk g5) fun hnl => ?_⟩
    have hnl : nm.length ≤ 200 := by have := of_decide_eq_false hnl; omega
    refine ⟨_, rfl, .str al, load_cells g6 rfl, _, rfl, _, gtrI _ _ _, splitB_bool (fun _ => no kk g5) fun hal => ?_⟩
    have hal : al.length ≤ 200 := by have := of_decide_eq_false hal; omega
    refine ⟨_, rfl, ar, load_cells g6 rfl, ?_⟩
    obtain ⟨r, H6, ⟨q, m6, rfl, k6, g7, hq⟩, hr⟩ := r155 har hm2 (by omega) g5
    refine ⟨_, _, hr, _, notB _, splitB_bool (fun _ => no (kk.trans k6) g7) fun hq' => ?_⟩
    obtain ⟨q1, q2, q3⟩ := hq (by simpa using hq')
    refine ⟨_, rfl, di, load_cells (k6.at g6 hcb) rfl, ?_⟩
    obtain ⟨r, H7, ⟨q, m7, rfl, k7, g8, hq⟩, hr⟩ := r144 hdi q2 (by omega) g7
    refine ⟨_, _, hr, _, notB _, splitB_bool (fun _ => no ((kk.trans k6).trans k7) g8) fun hq' => ?_⟩
    obtain ⟨q4, q5, q6⟩ := hq (by simpa using hq')
    refine ⟨_, rfl, se, load_cells ((k6.trans k7).at g6 hcb) rfl, _, addI _ _, ?_⟩
    obtain ⟨r, H8, ⟨q, m8, rfl, k8, g9, hq⟩, hr⟩ := ihx se hse H7 b m7 (IntKind.wrap .i64 (d + 1)) q5 (by omega) g8
    refine ⟨_, _, hr, _, notB _, splitB_bool (fun _ => no (((kk.trans k6).trans k7).trans k8) g9) fun hq' => ?_⟩
    obtain ⟨q7, q8, q9⟩ := hq (by simpa using hq')
    have := h.short (by decide)
    rw [add1 (by omega), getP_some]
    refine ⟨n - 1, by omega, i + 1, m8, by omega, rfl, ((kk.trans k6).trans k7).trans k8, g9, q8, ?_, all_take_succ hlt hf' ?_⟩
    · have e : wSels (l.take (i + 1)) = wSels (l.take i) + l[i].w := sum_take_succ _ hlt
      rw [e, hV, Sel.w_mk]
      simp only [Sel.sub] at q9
      simp only [wSels] at q9
      push_cast; omega
    · rw [hV, Sel.few_mk]
      exact ⟨hal, hnl, q1, q4, q7⟩
  · have hge : l.length ≤ i := by have := of_decide_eq_false hge; omega
    rw [List.take_of_length_le hge] at hw' hf'
    exact ⟨true, m', rfl, k3, g3, fun _ => ⟨hf', hm', hw'⟩⟩
theorem r145_sub (x : Sel) : FewSelsOk x.sub := by
  induction x using Sel.ind with
  | h k al n args dirs sels p ih => exact @r145_step _ ih
theorem r145 (l : List Sel) : FewSelsOk l := @r145_step _ fun x _ => r145_sub x
end Go.AM.T

/- Contracts: is a document few? -/
namespace Go.AM.T
set_option linter.unusedVariables false
set_option linter.unusedSimpArgs false
set_option maxRecDepth 100000

def wVals (l : List VarD) : Nat := (l.map fun v => v.v.w).sum
def fewVars (l : List VarD) : Prop := ∀ v ∈ l, v.n.length ≤ 200 ∧ v.t.length ≤ 300 ∧ v.v.few
def OpD.w (o : OpD) : Nat := o.vars.length + wVals o.vars + wDirs o.dirs + wSels o.sels
def OpD.few (o : OpD) : Prop := o.n.length ≤ 200 ∧ fewVars o.vars ∧ fewDirs o.dirs ∧ fewSels o.sels
def wOps (l : List OpD) : Nat := (l.map OpD.w).sum
def FragD.w (o : FragD) : Nat := wDirs o.dirs + wSels o.sels
def FragD.few (o : FragD) : Prop := o.n.length ≤ 200 ∧ o.on.length ≤ 200 ∧ fewDirs o.dirs ∧ fewSels o.sels
def wFrags (l : List FragD) : Nat := (l.map FragD.w).sum
structure Doc.few (d : Doc) : Prop where
  no : d.ops.length ≤ 100
  nf : d.frags.length ≤ 100
  w : wOps d.ops + wFrags d.frags ≤ 4000
  ops : ∀ o ∈ d.ops, o.few
  frags : ∀ o ∈ d.frags, o.few
theorem mulI (a b : Int) : binop .mul (.int .i64 a) (.int .i64 b) = some (I (IntKind.wrap .i64 (a * b))) := by simp [binop]
theorem IsVar.all {a : AV} {d : VarD} (h : IsVar a d) : ∃ v, a = .agg (.str d.n :: .str d.t :: .bool d.has :: (v.cells ++ [I d.p])) ∧ IsV v d.v ∧ (AV.str d.n :: .str d.t :: .bool d.has :: (v.cells ++ [I d.p])).length = 9 ∧ (AV.str d.n :: .str d.t :: .bool d.has :: (v.cells ++ [I d.p])).all AV.isCell = true := by
  obtain ⟨v, rfl, h⟩ := h
  refine ⟨v, rfl, h, by simp [h.val.cells.1], ?_⟩
  have := h.val.allCell
  simp only [List.all_cons, List.all_append, this]; rfl
theorem IsVar.cells {a : AV} {d : VarD} (h : IsVar a d) : a.cells.length = 9 := by
  obtain ⟨v, rfl, _, h9, _⟩ := h.all
  exact h9
theorem r142 {a : AV} {d : Doc} (h : IsDoc a d) (H : Heap) : ∃ r, (∃ q : Bool, r = .bool q ∧ (q = true → d.few)) ∧ Ret env 142 [a] H r H := by
  refine Ret.isoQ (f := c142) rfl rfl rfl (PubL.plain (by simp [AV.noIdsL, h.noIds])) (Eq.mpr (x142 _ _ _ _) ?_)
  obtain ⟨os, fs, rfl, ho, hf⟩ := h
  have done : ∀ {q : Bool} {H : Heap} {fr : Bool}, (q = true → d.few) → ∃ v, Pub fr H (.bool q) v ∧ ∃ q : Bool, v = .bool q ∧ (q = true → d.few) := fun {q _ _} h => ⟨.bool q, Pub.scalar rfl, q, rfl, h⟩
  have no : ∀ {H : Heap} {fr : Bool}, ∃ v, Pub fr H (.bool false) v ∧ ∃ q : Bool, v = .bool q ∧ (q = true → d.few) := fun {_ _} => done (by simp)
  rw [boxP_agg _ _ _ (by simp only [List.all_cons, List.all_nil, ho.cell, hf.cell]; rfl), boxP_cell _ _ _ rfl]
  refine ⟨_, store_cells (b := 1) (cs := [I 0]) rfl (by simp) rfl, ?_⟩
  show getP _ _
  generalize hH2 : ([] ++ [Blk.cells [os, fs]] ++ [Blk.cells [I 0]] : Heap).set 1 (.cells ([I 0].set 0 (.int .i64 4000))) = H2
  have g0 : H2[0]? = some (.cells [os, fs]) := by rw [← hH2]; rfl
  have g1 : H2[1]? = some (.cells [I 4000]) := by rw [← hH2]; rfl
  refine ⟨_, rfl, os, load_cells g0 rfl, _, ho.len _, _, gtrI _ _ _, splitB_bool (fun _ => no) fun hno => ?_⟩
  have hno : d.ops.length ≤ 100 := by have := of_decide_eq_false hno; omega
  refine ⟨_, rfl, fs, load_cells g0 rfl, _, hf.len _, _, gtrI _ _ _, splitB_bool (fun _ => no) fun hnf => ?_⟩
  have hnf : d.frags.length ≤ 100 := by have := of_decide_eq_false hnf; omega
  refine ⟨_, rfl, os, load_cells g0 rfl, _, ho.len _, ?_⟩
  refine ⟨fun n f H3 => ∃ (i : Nat) (m' : Int), i + n = d.ops.length ∧ f 23 = I ↑i ∧ Kp 1 H2 H3 ∧ H3[1]? = some (.cells [I m']) ∧ 0 ≤ m' ∧ m' + wOps (d.ops.take i) ≤ 4000 ∧ ∀ o ∈ d.ops.take i, o.few, ⟨d.ops.length, 0, 4000, by simp, rfl, Kp.refl, g1, by decide, by simp [wOps], by simp⟩, ?_⟩
  rintro n f H3 ⟨i, m', hi, h23, k3, g3, hm', hw', hf'⟩
  rw [h23, lssI, getP_some, splitB_iff]
  refine ⟨fun hlt => ?_, fun hge => ?_⟩
  · have hlt : i < d.ops.length := by simpa using hlt
    obtain ⟨_, ⟨va, di, se, rfl, hva, hdi, hse⟩, ha⟩ := ho.at (sh := some 6) (fun x z h => by obtain ⟨va, di, se, rfl, _⟩ := h; rfl) (k := .i64) hlt
    have hall : ([I d.ops[i].k, AV.str d.ops[i].n, va, di, se, I d.ops[i].p]).all AV.isCell = true := by simp only [List.all_cons, List.all_nil, hva.cell, hdi.cell, hse.cell]; rfl
    refine ⟨_, ha, _, load_dn (cs := [I d.ops[i].k, AV.str d.ops[i].n, va, di, se, I d.ops[i].p]) (n := 6) rfl _, box_copy (cs := [I d.ops[i].k, AV.str d.ops[i].n, va, di, se, I d.ops[i].p]) (n := 6) rfl rfl rfl hall ?_⟩
    have g4 := getElem?_grow g3 [.cells [I d.ops[i].k, AV.str d.ops[i].n, va, di, se, I d.ops[i].p]]
    have g4' : (H3 ++ [Blk.cells [I d.ops[i].k, AV.str d.ops[i].n, va, di, se, I d.ops[i].p]])[H3.length]? = some (.cells [I d.ops[i].k, AV.str d.ops[i].n, va, di, se, I d.ops[i].p]) := by simp
    have hvl := hva.short (by decide)
    refine ⟨_, left_load g4, _, rfl, va, load_cells g4' rfl, _, hva.len _, _, mulI _ _, _, subI _ _, ?_⟩
    rw [wrap64 (n := 10 * (d.ops[i].vars.length : Int)) (by omega) (by have := hva.big; simp only [BIG] at this; omega), wrap64 (by have := hva.big; simp only [BIG] at this; omega) (by omega)]
    refine ⟨_, left_store g3 _ _, ?_⟩
    obtain ⟨g5, g6, k5, hbl⟩ := left_box g3 [I d.ops[i].k, AV.str d.ops[i].n, va, di, se, I d.ops[i].p] (m' - 10 * (d.ops[i].vars.length : Int))
    generalize (H3 ++ [Blk.cells [I d.ops[i].k, AV.str d.ops[i].n, va, di, se, I d.ops[i].p]]).set 1 (.cells [I (m' - 10 * (d.ops[i].vars.length : Int))]) = H5 at g5 g6 k5 ⊢
    have kk := k3.trans k5
    have hcb : H3.length ≠ 1 := by omega
    refine ⟨_, rfl, va, load_cells g6 rfl, _, hva.len _, _, gtrI _ _ _, splitB_bool (fun _ => no) fun _ => ?_⟩
    refine ⟨_, left_load g5, _, lssI _ _ _, splitB_bool (fun _ => no) fun hm2 => ?_⟩
    have hm2 : 0 ≤ m' - 10 * (d.ops[i].vars.length : Int) := by have := of_decide_eq_false hm2; omega
    refine ⟨_, rfl, .str d.ops[i].n, load_cells g6 rfl, _, rfl, _, gtrI _ _ _, splitB_bool (fun _ => no) fun hnl => ?_⟩
    have hnl : d.ops[i].n.length ≤ 200 := by have := of_decide_eq_false hnl; omega
    refine ⟨_, rfl, di, load_cells g6 rfl, ?_⟩
    obtain ⟨r, H6, ⟨q, m6, rfl, k6, g7, hq⟩, hr⟩ := r144 hdi hm2 (by omega) g5
    refine ⟨_, _, hr, _, notB _, splitB_bool (fun _ => no) fun hq' => ?_⟩
    obtain ⟨q1, q2, q3⟩ := hq (by simpa using hq')
    refine ⟨_, rfl, se, load_cells (k6.at g6 hcb) rfl, ?_⟩
    obtain ⟨r, H7, ⟨q, m7, rfl, k7, g8, hq⟩, hr⟩ := r145 _ se hse H6 1 m6 0 q2 (by omega) g7
    refine ⟨_, _, hr, _, notB _, splitB_bool (fun _ => no) fun hq' => ?_⟩
    obtain ⟨q4, q5, q6⟩ := hq (by simpa using hq')
    have g9 := (k6.trans k7).at g6 hcb
    refine ⟨_, rfl, va, load_cells g9 rfl, _, hva.len _, ?_⟩
    refine ⟨fun n f H8 => ∃ (j : Nat) (m8 : Int), j + n = d.ops[i].vars.length ∧ f 62 = I ↑j ∧ Kp 1 H7 H8 ∧ H8[1]? = some (.cells [I m8]) ∧ 0 ≤ m8 ∧ m8 + wVals (d.ops[i].vars.take j) ≤ m7 ∧ fewVars (d.ops[i].vars.take j), ⟨d.ops[i].vars.length, 0, m7, by simp, rfl, Kp.refl, g8, q5, by simp [wVals], by simp [fewVars]⟩, ?_⟩
    rintro n2 f2 H8 ⟨j, m8, hj, h62, k8, g10, hm8, hw8, hf8⟩
    rw [h62, lssI, getP_some, splitB_iff]
    refine ⟨fun hlt2 => ?_, fun hge2 => ?_⟩
    · have hlt2 : j < d.ops[i].vars.length := by simpa using hlt2
      obtain ⟨x, hx, ha2⟩ := hva.at (sh := some 9) (fun _ _ h => h.cells) (k := .i64) hlt2
      obtain ⟨v, rfl, hv, hl9, hall9⟩ := hx.all
      generalize hvd : d.ops[i].vars[j] = vd at *
      refine ⟨_, ha2, _, load_dn hl9 _, box_copy rfl rfl hl9 hall9 ?_⟩
      have g11 := getElem?_grow g10 [.cells (AV.str vd.n :: .str vd.t :: .bool vd.has :: (v.cells ++ [I vd.p]))]
      have g12 : (H8 ++ [Blk.cells (AV.str vd.n :: .str vd.t :: .bool vd.has :: (v.cells ++ [I vd.p]))])[H8.length]? = some (.cells (AV.str vd.n :: .str vd.t :: .bool vd.has :: (v.cells ++ [I vd.p]))) := by simp
      refine ⟨_, rfl, .str vd.n, load_cells g12 rfl, _, rfl, _, gtrI _ _ _, splitB_bool (fun _ => no) fun hn2 => ?_⟩
      have hn2 : vd.n.length ≤ 200 := by have := of_decide_eq_false hn2; omega
      refine ⟨_, rfl, .str vd.t, load_cells g12 rfl, _, rfl, _, gtrI _ _ _, splitB_bool (fun _ => no) fun hn3 => ?_⟩
      have hn3 : vd.t.length ≤ 300 := by have := of_decide_eq_false hn3; omega
      refine ⟨_, rfl, v, load_part g12 (mkv_append hv.val.cells.1 hv.val.cells.2), ?_⟩
      obtain ⟨r, H9, ⟨q, m9, rfl, k9, g13, hq⟩, hr⟩ := r38 hv hm8 (by omega) g11
      refine ⟨_, _, hr, _, notB _, splitB_bool (fun _ => no) fun hq' => ?_⟩
      obtain ⟨q7, q8, q9⟩ := hq (by simpa using hq')
      rw [add1 (by omega), getP_some]
      refine ⟨n2 - 1, by omega, j + 1, m9, by omega, rfl, (k8.trans (Kp.grow _)).trans k9, g13, q8, ?_, all_take_succ hlt2 hf8 (by rw [hvd]; exact ⟨hn2, hn3, q7⟩)⟩
      have e : wVals (d.ops[i].vars.take (j + 1)) = wVals (d.ops[i].vars.take j) + d.ops[i].vars[j].v.w := sum_take_succ _ hlt2
      rw [e, hvd]; push_cast; omega
    · have hge2 : d.ops[i].vars.length ≤ j := by have := of_decide_eq_false hge2; omega
      rw [List.take_of_length_le hge2] at hw8 hf8
      rw [add1 (by omega), getP_some]
      refine ⟨n - 1, by omega, i + 1, m8, by omega, rfl, ((kk.trans k6).trans k7).trans k8, g10, hm8, ?_, all_take_succ hlt hf' ⟨hnl, hf8, q1, q4⟩⟩
      have e : wOps (d.ops.take (i + 1)) = wOps (d.ops.take i) + d.ops[i].w := sum_take_succ _ hlt
      rw [e]; simp only [OpD.w]; push_cast; omega
  · have hge : d.ops.length ≤ i := by have := of_decide_eq_false hge; omega
    rw [List.take_of_length_le hge] at hw' hf'
    have g4 := k3.at g0 (by decide)
    refine ⟨_, rfl, fs, load_cells g4 rfl, _, hf.len _, ?_⟩
    refine ⟨fun n f H4 => ∃ (j : Nat) (m2 : Int), j + n = d.frags.length ∧ f 87 = I ↑j ∧ Kp 1 H2 H4 ∧ H4[1]? = some (.cells [I m2]) ∧ 0 ≤ m2 ∧ m2 + wFrags (d.frags.take j) ≤ m' ∧ ∀ o ∈ d.frags.take j, o.few, ⟨d.frags.length, 0, m', by simp, rfl, k3, g3, hm', by simp [wFrags], by simp⟩, ?_⟩
    rintro n2 f2 H4 ⟨j, m2, hj, h87, k4, g5, hm2, hw2, hf2⟩
    rw [h87, lssI, getP_some, splitB_iff]
    refine ⟨fun hlt => ?_, fun hge2 => ?_⟩
    · have hlt : j < d.frags.length := by simpa using hlt
      obtain ⟨_, ⟨di, se, rfl, hdi, hse⟩, ha⟩ := hf.at (sh := some 5) (fun x z h => by obtain ⟨di, se, rfl, _⟩ := h; rfl) (k := .i64) hlt
      have hall : ([AV.str d.frags[j].n, AV.str d.frags[j].on, di, se, I d.frags[j].p]).all AV.isCell = true := by simp only [List.all_cons, List.all_nil, hdi.cell, hse.cell]; rfl
      refine ⟨_, ha, _, load_dn (cs := [AV.str d.frags[j].n, AV.str d.frags[j].on, di, se, I d.frags[j].p]) (n := 5) rfl _, box_copy (cs := [AV.str d.frags[j].n, AV.str d.frags[j].on, di, se, I d.frags[j].p]) (n := 5) rfl rfl rfl hall ?_⟩
      have hbl : 1 < H4.length := (List.getElem?_eq_some_iff.1 g5).1
      have g6 := getElem?_grow g5 [.cells [AV.str d.frags[j].n, AV.str d.frags[j].on, di, se, I d.frags[j].p]]
      have g7 : (H4 ++ [Blk.cells [AV.str d.frags[j].n, AV.str d.frags[j].on, di, se, I d.frags[j].p]])[H4.length]? = some (.cells [AV.str d.frags[j].n, AV.str d.frags[j].on, di, se, I d.frags[j].p]) := by simp
      refine ⟨_, rfl, .str d.frags[j].n, load_cells g7 rfl, _, rfl, _, gtrI _ _ _, splitB_bool (fun _ => no) fun hn2 => ?_⟩
      have hn2 : d.frags[j].n.length ≤ 200 := by have := of_decide_eq_false hn2; omega
      refine ⟨_, rfl, .str d.frags[j].on, load_cells g7 rfl, _, rfl, _, gtrI _ _ _, splitB_bool (fun _ => no) fun hn3 => ?_⟩
      have hn3 : d.frags[j].on.length ≤ 200 := by have := of_decide_eq_false hn3; omega
      refine ⟨_, rfl, di, load_cells g7 rfl, ?_⟩
      obtain ⟨r, H6, ⟨q, m6, rfl, k6, g8, hq⟩, hr⟩ := r144 hdi hm2 (by omega) g6
      refine ⟨_, _, hr, _, notB _, splitB_bool (fun _ => no) fun hq' => ?_⟩
      obtain ⟨q1, q2, q3⟩ := hq (by simpa using hq')
      refine ⟨_, rfl, se, load_cells (k6.at g7 (by omega)) rfl, ?_⟩
      obtain ⟨r, H7, ⟨q, m7, rfl, k7, g9, hq⟩, hr⟩ := r145 _ se hse H6 1 m6 0 q2 (by omega) g8
      refine ⟨_, _, hr, _, notB _, splitB_bool (fun _ => no) fun hq' => ?_⟩
      obtain ⟨q4, q5, q6⟩ := hq (by simpa using hq')
      rw [add1 (by omega), getP_some]
      refine ⟨n2 - 1, by omega, j + 1, m7, by omega, rfl, ((k4.trans (Kp.grow _)).trans k6).trans k7, g9, q5, ?_, all_take_succ hlt hf2 ⟨hn2, hn3, q1, q4⟩⟩
      have e : wFrags (d.frags.take (j + 1)) = wFrags (d.frags.take j) + d.frags[j].w := sum_take_succ _ hlt
      rw [e]; simp only [FragD.w]; push_cast; omega
    · have hge2 : d.frags.length ≤ j := by have := of_decide_eq_false hge2; omega
      rw [List.take_of_length_le hge2] at hw2 hf2
      exact done fun _ => ⟨hno, hnf, by omega, hf', hf2⟩
end Go.AM.T

/- Contracts: the names of operations; two lists of texts. -/
namespace Go.AM.T
set_option linter.unusedVariables false
set_option linter.unusedSimpArgs false
set_option maxRecDepth 100000

def GrowH (H H' : Heap) : Prop := H.length ≤ H'.length ∧ ∀ b, b < H.length → H'[b]? = H[b]?
theorem GrowH.refl (H : Heap) : GrowH H H := ⟨Nat.le_refl _, fun _ _ => rfl⟩
theorem GrowH.trans {A B C : Heap} (h : GrowH A B) (k : GrowH B C) : GrowH A C := ⟨Nat.le_trans h.1 k.1, fun b hb => (k.2 b (Nat.lt_of_lt_of_le hb h.1)).trans (h.2 b hb)⟩
theorem GrowH.app (H X : Heap) : GrowH H (H ++ X) := ⟨by simp, fun b hb => List.getElem?_append_left hb⟩
theorem GrowH.at {H H' : Heap} (h : GrowH H H') {b : Nat} {x : Blk} (hx : H[b]? = some x) : H'[b]? = some x := by rw [h.2 b (List.getElem?_eq_some_iff.1 hx).1, hx]
theorem OutL.growH {v : AV} {H H' : Heap} {l : List Str} (h : OutL v H l) (g : GrowH H H') : OutL v H' l := by
  rcases h with h | ⟨b, h1, h2, h3⟩
  · exact .inl h
  · exact .inr ⟨b, h1, g.at h2, h3⟩
theorem app1G {H0 H : Heap} {v : AV} {l : List Str} (g : GrowH H0 H) (h : OutL v H l) (hb : ∀ b n, v = .sl b 0 n none → H0.length ≤ b) (s : Str) (hl : l.length ≤ 8796093022000) :
    ∃ v' H', OutL v' H' (l ++ [s]) ∧ GrowH H0 H' ∧ (∀ b n, v' = .sl b 0 n none → H0.length ≤ b) ∧
      ∀ K : AV → Heap → AV → Heap → Prop, sliceP none 0 1 [AV.str []] [(0, 1, AV.str s)] H (fun v1 h1 => get2 (appA none 0 16 v v1 h1) (K v1 h1)) = K (.sl H.length 0 1 none) (H ++ [Blk.arr 1 0 0 [.str s]]) v' H' := by
  obtain ⟨v', H', q1, q2, q3, q4, q5⟩ := app1 h s hl
  refine ⟨v', H', q1, ⟨by have := g.1; omega, fun b hb' => ?_⟩, ?_, q5⟩
  · have hx : H0[b]? = some H0[b] := List.getElem?_eq_getElem hb'
    rw [hx]
    refine q2 b _ (g.at hx) fun e => ?_
    have := hb b _ e
    omega
  · intro b n e
    have hg := g.1
    rcases q1 with ⟨q, _⟩ | ⟨c, q, _, _⟩
    · rw [q] at e; cases e
    · have : c = b := by rw [q] at e; injection e
      have := q4 c q
      omega
theorem OutL.len {v : AV} {H : Heap} {l : List Str} (h : OutL v H l) (H2 : Heap) : lenA H2 .sl v = some (I ↑l.length) := by
  rcases h with ⟨rfl, rfl⟩ | ⟨b, rfl, _, _⟩ <;> rfl
theorem ostr_ordO_like (l : List Str) : SLike (ostr (ordO l)) (strs l) := by
  unfold ordO
  split
  · rename_i h; subst h; exact .nils
  · exact .data _
theorem r9 {a b : AV} {l m : List Str} (ha : SLike a (strs l)) (hb : SLike b (strs m)) (hl : ShortL l) (hm : ShortL m) {args : List AV} {H : Heap} (hp : PubL H args [a, b]) : Ret env 9 args H (.bool (l == m)) H := by
  refine Ret.isoX (f := c9) rfl rfl rfl hp (Eq.mpr (x9 _ _ _ _ _) ?_)
  simp only [ha.len, hb.len, getP_some, neqI, splitB_iff, List.length_map]
  refine ⟨fun h => ?_, fun h => ?_⟩
  · have : l.length ≠ m.length := by intro e; simp [e] at h
    rw [pub_bool]
    have : (l == m) = false := beq_eq_false_iff_ne.2 fun e => this (by rw [e])
    rw [this]
  · have hlen : l.length = m.length := by have := h; simp at this; omega
    refine ⟨fun n f H => ∃ i : Nat, i + n = l.length ∧ f 13 = I ↑i ∧ H = [] ∧ (l == m) = (l.drop i == m.drop i), ⟨l.length, 0, by simp, rfl, rfl, by simp⟩, ?_⟩
    rintro n f H ⟨i, hi, h8, rfl, hr⟩
    simp only [h8, lssI, getP_some, splitB_iff, decide_eq_true_eq, decide_eq_false_iff_not]
    refine ⟨fun h => ?_, fun h => ?_⟩
    · have hlt : i < l.length := by omega
      have hlt2 : i < m.length := by omega
      refine ⟨by kernel_rfl, ?_⟩
      simp only [ha.iaddr (get_map hlt) (strs_cells l), hb.iaddr (get_map hlt2) (strs_cells m), getP_some, AV.cells, load_d1, neqS, splitB_iff]
      refine ⟨trOk_quiet (by simp), ?_⟩
      rw [drop_cons (List.getElem?_eq_getElem hlt), drop_cons (List.getElem?_eq_getElem hlt2)] at hr
      refine ⟨fun e => ?_, fun e => ?_⟩
      · have e : ¬ l[i] = m[i] := by simpa using e
        have e2 : (l[i] == m[i]) = false := by simpa using e
        rw [pub_bool, hr, List.cons_beq_cons, e2]; rfl
      · have e : l[i] = m[i] := by simpa using e
        rw [add1 (by omega), getP_some]
        refine ⟨n - 1, by omega, i + 1, by omega, rfl, by trivial, ?_⟩
        rw [hr, List.cons_beq_cons, e]; simp
    · have h1 : l.drop i = [] := by simp; omega
      have h2 : m.drop i = [] := by simp; omega
      rw [pub_bool, hr, h1, h2]; rfl
/-- The names of the operations that have one. -/
def opNames (l : List OpD) : List Str := (l.map (·.n)).filter fun s => s != []
theorem opNames_succ {l : List OpD} {i : Nat} (h : i < l.length) : opNames (l.take (i + 1)) = opNames (l.take i) ++ if l[i].n != [] then [l[i].n] else [] := by
  unfold opNames
  rw [← List.take_append_getElem h, List.map_append, List.filter_append]
  simp [List.filter_cons]
theorem opNames_len (l : List OpD) : (opNames l).length ≤ l.length := by
  unfold opNames; exact Nat.le_trans (List.length_filter_le _ _) (by simp)
theorem op_cells {x : AV} {o : OpD} (h : IsOp x o) : ∃ cs, x = .agg cs ∧ cs.length = 6 ∧ cs.all AV.isCell = true ∧ cs[1]? = some (.str o.n) := by
  obtain ⟨va, di, se, rfl, h1, h2, h3⟩ := h
  exact ⟨_, rfl, rfl, by simp only [List.all_cons, List.all_nil, h1.cell, h2.cell, h3.cell]; rfl, rfl⟩
def NamesR (l : List Str) (H : Heap) (v : AV) (H' : Heap) : Prop := OutL v H' l ∧ GrowH H H' ∧ ∀ b n, v = .sl b 0 n none → H.length ≤ b
theorem r143 {a : AV} {d : Doc} (h : IsDoc a d) (H : Heap) : ∃ v H', NamesR (opNames d.ops) H v H' ∧ Ret env 143 [a] H v H' := by
  refine Ret.openQ (f := c143) rfl rfl rfl (Eq.mpr (x143 _ _ _ _) ?_)
  obtain ⟨os, fs, rfl, ho, hf⟩ := h
  rw [boxP_agg _ _ _ (by simp only [List.all_cons, List.all_nil, ho.cell, hf.cell]; rfl)]
  have g0 : (H ++ [Blk.cells [os, fs]])[H.length]? = some (.cells [os, fs]) := by simp
  refine ⟨_, rfl, os, load_cells g0 rfl, _, ho.len _, ?_⟩
  have hs := ho.big
  refine ⟨fun n f H3 => ∃ i : Nat, i + n = d.ops.length ∧ f 9 = I ↑i ∧ OutL (f 3) H3 (opNames (d.ops.take i)) ∧ GrowH H H3 ∧ ∀ b n, f 3 = .sl b 0 n none → H.length ≤ b, ⟨d.ops.length, 0, by simp, rfl, by simpa [opNames] using OutL.nil _, GrowH.app _ _, fun b n e => (by cases e)⟩, ?_⟩
  rintro n f H3 ⟨i, hi, h9, h3, g3, hb3⟩
  rw [h9, lssI, getP_some, splitB_iff]
  refine ⟨fun hlt => ?_, fun hge => ?_⟩
  · have hlt : i < d.ops.length := by simpa using hlt
    obtain ⟨x, hx, ha⟩ := ho.at (sh := some 6) (fun x z h => by obtain ⟨va, di, se, rfl, _⟩ := h; rfl) (k := .i64) hlt
    obtain ⟨cs, rfl, hc6, hall, hc1⟩ := op_cells hx
    refine ⟨_, ha, _, load_dn hc6 _, box_copy rfl rfl hc6 hall ?_⟩
    have g4 : (H3 ++ [Blk.cells cs])[H3.length]? = some (.cells cs) := by simp
    have gg := g3.trans (GrowH.app H3 [Blk.cells cs])
    have hsm : (opNames (d.ops.take i)).length ≤ 8796093022000 := by
      have := opNames_len (d.ops.take i)
      simp only [List.length_take] at this
      simp only [BIG] at hs; omega
    refine ⟨_, rfl, .str d.ops[i].n, load_cells g4 hc1, _, neqS _ _, ?_⟩
    have e := opNames_succ hlt
    refine splitB_bool (fun hne => ?_) fun heq => ?_
    · refine ⟨_, rfl, .str d.ops[i].n, load_cells g4 hc1, ?_⟩
      obtain ⟨v', H', q1, q2, q3, q4⟩ := app1G gg (h3.growH (GrowH.app H3 _)) hb3 d.ops[i].n hsm
      rw [q4]
      have : d.ops.length < 4611686018427387904 := ho.short (by decide)
      rw [add1 (by omega), getP_some]
      refine ⟨n - 1, by omega, i + 1, by omega, rfl, ?_, q2, q3⟩
      rw [e, if_pos hne]; exact q1
    · have : d.ops.length < 4611686018427387904 := ho.short (by decide)
      rw [add1 (by omega), getP_some]
      refine ⟨n - 1, by omega, i + 1, by omega, rfl, ?_, gg, hb3⟩
      rw [e, if_neg (by simp [heq]), List.append_nil]; exact h3.growH (GrowH.app H3 _)
  · have hge : d.ops.length ≤ i := by have := of_decide_eq_false hge; omega
    rw [List.take_of_length_le hge] at h3
    exact ⟨h3, g3, hb3⟩
end Go.AM.T
