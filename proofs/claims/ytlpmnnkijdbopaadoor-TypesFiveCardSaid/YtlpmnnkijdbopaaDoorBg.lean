/- Copies in memory of one's own that is told: how a row of parts is turned one by one. -/
import Derived.Test.YtlpmnnkijdbopaaDoorBc
import Derived.Test.YtlpmnnkijdbopaaDoorBf
import Derived.Test.YtlpmnnkijdbopaaDoorBd
set_option linter.unusedSectionVars false
set_option linter.unnecessarySimpa false
set_option linter.deprecated false
set_option linter.unusedVariables false
set_option linter.unusedSimpArgs false
namespace Go.AM.T
set_option linter.unusedVariables false
set_option linter.unusedSimpArgs false
set_option maxRecDepth 100000

/-- All that was there is there. -/
def GrowH (H H' : Heap) : Prop := H.length ≤ H'.length ∧ ∀ b, b < H.length → H'[b]? = H[b]?
theorem GrowH.refl (H : Heap) : GrowH H H := ⟨Nat.le_refl _, fun _ _ => rfl⟩
theorem GrowH.trans {A B C : Heap} (h : GrowH A B) (k : GrowH B C) : GrowH A C := ⟨Nat.le_trans h.1 k.1, fun b hb => (k.2 b (Nat.lt_of_lt_of_le hb h.1)).trans (h.2 b hb)⟩
theorem GrowH.app (H X : Heap) : GrowH H (H ++ X) := ⟨by simp, fun b hb => List.getElem?_append_left hb⟩
theorem GrowH.at {H H' : Heap} (h : GrowH H H') {b : Nat} {x : Blk} (hx : H[b]? = some x) : H'[b]? = some x := by rw [h.2 b (List.getElem?_eq_some_iff.1 hx).1, hx]
/-- Made plain it is 'v', by blocks from m on alone. -/
def Fresh (m : Nat) (H : Heap) (v' v : AV) : Prop := ∀ H2 : Heap, (∀ b x, m ≤ b → H[b]? = some x → H2[b]? = some x) → Pub true H2 v' v
theorem Fresh.mono {m n : Nat} {H H' : Heap} {v' v : AV} (h : Fresh m H v' v) (hn : n ≤ m) (hk : ∀ b x, m ≤ b → H[b]? = some x → H'[b]? = some x) : Fresh n H' v' v :=
  fun H2 h2 => h H2 fun b x hb hx => h2 b x (Nat.le_trans hn hb) (hk b x hb hx)
theorem Fresh.scalar {m : Nat} {H : Heap} {v : AV} (h : v.scalar = true) : Fresh m H v v := fun _ _ => Pub.scalar h
theorem PubLF.app {fr : Bool} {H : Heap} {a b a' b' : List AV} (h : PubLF fr H a a') (k : PubLF fr H b b') : PubLF fr H (a ++ b) (a' ++ b') := by
  induction a generalizing a' with
  | nil =>
    obtain ⟨n, hn⟩ := h
    have := hn (n + 1) (by omega)
    simp [pubL] at this; subst this; simpa using k
  | cons v r ih =>
    obtain ⟨n, hn⟩ := h
    have h1 := hn (n + 1) (by omega)
    simp only [pubL] at h1
    obtain ⟨v', h2, h3⟩ := Option.bind_eq_some_iff.1 h1
    obtain ⟨r', h4, rfl⟩ := Option.map_eq_some_iff.1 h3
    have : PubLF fr H r r' := by
      refine ⟨n, fun k hk => ?_⟩
      have := hn (k + 1) (by omega)
      simp only [pubL] at this
      obtain ⟨w, g1, g2⟩ := Option.bind_eq_some_iff.1 this
      obtain ⟨q, g3, g4⟩ := Option.map_eq_some_iff.1 g2
      injection g4 with g5 g6
      rw [g3, g6]
    have hv : Pub fr H v v' := by
      refine ⟨n, fun k hk => ?_⟩
      have := hn (k + 1) (by omega)
      simp only [pubL] at this
      obtain ⟨w, g1, g2⟩ := Option.bind_eq_some_iff.1 this
      obtain ⟨q, g3, g4⟩ := Option.map_eq_some_iff.1 g2
      injection g4 with g5 g6
      rw [g1, g5]
    exact .cons hv (ih this)
theorem Pub.cells {fr : Bool} {H : Heap} {v v' : AV} (h : Pub fr H v v') (hv : v.isCell = true ∨ ∃ cs, v = .agg cs) (hv' : v'.isCell = true ∨ ∃ cs, v = .agg cs) : PubLF fr H v.cells v'.cells := by
  rcases hv with hc | ⟨cs, rfl⟩
  · rcases hv' with hc' | ⟨cs, rfl⟩
    · rw [cell1 hc, cell1 hc']; exact .cons h .nil
    · cases hc
  · obtain ⟨n, hn⟩ := h
    have h1 := hn (n + 1) (by omega)
    simp only [pub] at h1
    obtain ⟨cs', h2, rfl⟩ := Option.map_eq_some_iff.1 h1
    refine ⟨n, fun k hk => ?_⟩
    have := hn (k + 1) (by omega)
    simp only [pub] at this
    obtain ⟨q, g3, g4⟩ := Option.map_eq_some_iff.1 this
    injection g4 with g4
    show pubL fr k H cs = some cs'
    rw [g3, g4]
/-- A row of parts: the first i of them are new. -/
def Row (m0 : Nat) (H : Heap) (b sz : Nat) (xs : List AV) (i : Nat) : Prop :=
  ∃ ys : List AV, ys.length = i ∧ H[b]? = some (.arr sz 0 0 (ys.flatMap AV.cells ++ (xs.drop i).flatMap AV.cells)) ∧ ∀ (j : Nat) (y x : AV), ys[j]? = some y → xs[j]? = some x → y.cells.length = sz ∧ (∃ cs, y = .agg cs) ∧ Fresh m0 H y x
theorem flat_len {sz : Nat} : ∀ {ys : List AV}, (∀ y ∈ ys, y.cells.length = sz) → (ys.flatMap AV.cells).length = ys.length * sz
  | [], _ => by simp
  | y :: r, h => by
    rw [List.flatMap_cons, List.length_append, h y (by simp), flat_len (sz := sz) (ys := r) fun z hz => h z (by simp [hz]), List.length_cons, Nat.succ_mul]; omega
theorem Row.get {m0 : Nat} {H : Heap} {b sz : Nat} {xs : List AV} {i : Nat} (h : Row m0 H b sz xs i) {x : AV} (hx : xs[i]? = some x) : ∃ A B, H[b]? = some (.arr sz 0 0 (A ++ x.cells ++ B)) ∧ A.length = i * sz ∧
    ∀ (H' : Heap) (y : AV), m0 ≤ H.length → b < m0 → GrowH H H' → y.cells.length = sz → (∃ cs, y = .agg cs) → Fresh H.length H' y x → Row m0 (H'.set b (.arr sz 0 0 (A ++ y.cells ++ B))) b sz xs (i + 1) := by
  obtain ⟨ys, h1, h2, h3⟩ := h
  rw [drop_cons hx, List.flatMap_cons] at h2
  have hil : i < xs.length := (List.getElem?_eq_some_iff.1 hx).1
  have hyl : ∀ y ∈ ys, y.cells.length = sz := by
    intro y hy
    obtain ⟨j, hj⟩ := List.getElem?_of_mem hy
    have hjl : j < ys.length := (List.getElem?_eq_some_iff.1 hj).1
    exact (h3 j y _ hj (List.getElem?_eq_getElem (by omega))).1
  refine ⟨ys.flatMap AV.cells, (xs.drop (i + 1)).flatMap AV.cells, by rw [List.append_assoc]; exact h2, by rw [flat_len hyl, h1], ?_⟩
  intro H' y hm hb hg hsz hag hf
  have hbl : b < H'.length := by have := (List.getElem?_eq_some_iff.1 h2).1; have := hg.1; omega
  refine ⟨ys ++ [y], by simp [h1], ?_, ?_⟩
  · rw [List.getElem?_set_self hbl]; simp
  · intro j z w hz hw
    have keep : ∀ c q, m0 ≤ c → H'[c]? = some q → (H'.set b (.arr sz 0 0 (ys.flatMap AV.cells ++ y.cells ++ (xs.drop (i + 1)).flatMap AV.cells)))[c]? = some q := by
      intro c q hc hq
      rw [List.getElem?_set_ne (by omega)]; exact hq
    by_cases hj : j < i
    · rw [List.getElem?_append_left (by omega)] at hz
      obtain ⟨g1, g2, g3⟩ := h3 j z w hz hw
      exact ⟨g1, g2, g3.mono (Nat.le_refl _) fun c q hc hq => keep c q hc (hg.at hq)⟩
    · have hji : j = i := by
        have := (List.getElem?_eq_some_iff.1 hz).1
        simp [h1] at this; omega
      subst hji
      rw [List.getElem?_append_right (by omega), h1] at hz
      simp at hz; subst hz
      rw [hx] at hw; injection hw with hw; subst hw
      exact ⟨hsz, hag, hf.mono hm fun c q hc hq => keep c q (Nat.le_trans hm hc) hq⟩
theorem Row.keep {m0 : Nat} {H H' : Heap} {b sz : Nat} {xs : List AV} {i : Nat} (h : Row m0 H b sz xs i) (hb : H'[b]? = H[b]?) (hk : ∀ c q, m0 ≤ c → H[c]? = some q → H'[c]? = some q) : Row m0 H' b sz xs i := by
  obtain ⟨ys, h1, h2, h3⟩ := h
  refine ⟨ys, h1, hb.trans h2, fun j y x hy hx => ?_⟩
  obtain ⟨g1, g2, g3⟩ := h3 j y x hy hx
  exact ⟨g1, g2, g3.mono (Nat.le_refl _) hk⟩
theorem Row.pub {m0 : Nat} {H : Heap} {b sz : Nat} {xs : List AV} (h : Row m0 H b sz xs xs.length) (hx : ∀ x ∈ xs, x.cells.length = szOf (some sz) ∧ mkv (some sz) x.cells = some x) {H2 : Heap} (hb : H2[b]? = H[b]?) (h2 : ∀ c q, m0 ≤ c → H[c]? = some q → H2[c]? = some q) : Pub true H2 (.sl b 0 xs.length (some sz)) (.data xs) := by
  obtain ⟨ys, h1, h3, h4⟩ := h
  rw [List.drop_length] at h3
  simp only [List.flatMap_nil, List.append_nil] at h3
  have hyl : ∀ y ∈ ys, y.cells.length = sz := by
    intro y hy
    obtain ⟨j, hj⟩ := List.getElem?_of_mem hy
    have hjl : j < ys.length := (List.getElem?_eq_some_iff.1 hj).1
    exact (h4 j y _ hj (List.getElem?_eq_getElem (by omega))).1
  have hl := flat_len hyl
  refine Pub.sl (cs' := xs.flatMap AV.cells) (hb.trans h3) rfl (by rw [hl, h1]; omega) ?_ (chunk_cells hx)
  rw [List.drop_zero, show xs.length * sz = (ys.flatMap AV.cells).length by rw [hl, h1], List.take_length]
  clear h3 hl
  have key : ∀ (ys xs : List AV), ys.length = xs.length → (∀ (j : Nat) (y x : AV), ys[j]? = some y → xs[j]? = some x → (∃ cs, y = .agg cs) ∧ Fresh m0 H y x) → PubLF true H2 (ys.flatMap AV.cells) (xs.flatMap AV.cells) := by
    intro ys
    induction ys with
    | nil => intro xs h _; have : xs = [] := List.eq_nil_of_length_eq_zero h.symm; subst this; exact .nil
    | cons y r ih =>
      intro xs h hh
      cases xs with
      | nil => simp at h
      | cons x q =>
        rw [List.flatMap_cons, List.flatMap_cons]
        obtain ⟨⟨cs, rfl⟩, hf⟩ := hh 0 y x rfl rfl
        exact PubLF.app (Pub.cells (hf H2 h2) (.inr ⟨cs, rfl⟩) (.inr ⟨cs, rfl⟩)) (ih q (by simpa using h) fun j y x hy hx => hh (j + 1) y x hy hx)
  exact key ys xs h1 fun j y x hy hx => (h4 j y x hy hx).2
/-- A copy of one's own, its first i parts new. -/
def RowS (lo hi m0 : Nat) (H : Heap) (a v : AV) (sz : Nat) (xs : List AV) (i : Nat) : Prop := (a = .nils ∧ v = .nils ∧ xs = []) ∨ (a = .data xs ∧ ∃ b, v = .sl b 0 xs.length (some sz) ∧ lo ≤ b ∧ b < hi ∧ Row m0 H b sz xs i)
theorem Cloned.row {sz : Nat} {a : AV} {xs : List AV} {H H' : Heap} {v : AV} (h : Cloned (some sz) a xs H v H') (m0 : Nat) : RowS H.length H'.length m0 H' a v sz xs 0 := by
  rcases h with ⟨rfl, rfl, rfl, rfl⟩ | ⟨rfl, b, X, rfl, rfl, hb, hx⟩
  · exact .inl ⟨rfl, rfl, rfl⟩
  · have := (List.getElem?_eq_some_iff.1 hx).1
    exact .inr ⟨rfl, b, rfl, hb, by omega, [], rfl, by simpa [szOf] using hx, fun j y x hy => by simp at hy⟩
theorem RowS.pub {lo hi m0 : Nat} {H : Heap} {a v : AV} {sz : Nat} {xs : List AV} (h : RowS lo hi m0 H a v sz xs xs.length) (hx : ∀ x ∈ xs, x.cells.length = szOf (some sz) ∧ mkv (some sz) x.cells = some x) {H2 : Heap} (h2 : ∀ c q, ((lo ≤ c ∧ c < hi) ∨ m0 ≤ c) → H[c]? = some q → H2[c]? = some q) : Pub true H2 v a := by
  rcases h with ⟨rfl, rfl, rfl⟩ | ⟨rfl, b, rfl, hlo, hb, hr⟩
  · exact Pub.scalar rfl
  · have hr' := hr
    obtain ⟨ys, _, hbx, _⟩ := hr'
    exact hr.pub hx (by rw [h2 b _ (.inl ⟨hlo, hb⟩) hbx, hbx]) fun c q hc hq => h2 c q (.inr hc) hq
theorem RowS.keep {lo hi m0 : Nat} {H H' : Heap} {a v : AV} {sz : Nat} {xs : List AV} {i : Nat} (h : RowS lo hi m0 H a v sz xs i) (hk : ∀ c q, ((lo ≤ c ∧ c < hi) ∨ m0 ≤ c) → H[c]? = some q → H'[c]? = some q) : RowS lo hi m0 H' a v sz xs i := by
  rcases h with h | ⟨ha, b, e, hlo, hb, hr⟩
  · exact .inl h
  · have hr' := hr
    obtain ⟨ys, _, hbx, _⟩ := hr'
    exact .inr ⟨ha, b, e, hlo, hb, hr.keep (by rw [hk b _ (.inl ⟨hlo, hb⟩) hbx, hbx]) fun c q hc hq => hk c q (.inr hc) hq⟩
theorem RowS.len {lo hi m0 H a v sz xs i} (h : RowS lo hi m0 H a v sz xs i) (H2 : Heap) : lenA H2 .sl v = some (.int .i64 ↑xs.length) := by
  rcases h with ⟨rfl, rfl, rfl⟩ | ⟨ha, b, rfl, _⟩ <;> rfl
theorem RowS.cell {lo hi m0 H a v sz xs i} (h : RowS lo hi m0 H a v sz xs i) : v.isCell = true := by
  rcases h with ⟨rfl, rfl, rfl⟩ | ⟨ha, b, rfl, _⟩ <;> rfl
theorem RowS.at {lo hi m0 : Nat} {H : Heap} {a v : AV} {sz : Nat} {xs : List AV} {i : Nat} (h : RowS lo hi m0 H a v sz xs i) (hh : hi ≤ m0) {x : AV} (hx : xs[i]? = some x) : ∃ b A B, iaddrA (some sz) v (.int .i64 ↑i) = some (.ptr b (i * sz)) ∧ lo ≤ b ∧ b < hi ∧ H[b]? = some (.arr sz 0 0 (A ++ x.cells ++ B)) ∧ A.length = i * sz ∧
    ∀ (H' : Heap) (y : AV), m0 ≤ H.length → GrowH H H' → y.cells.length = sz → (∃ cs, y = .agg cs) → Fresh H.length H' y x → RowS lo hi m0 (H'.set b (.arr sz 0 0 (A ++ y.cells ++ B))) a v sz xs (i + 1) := by
  have hi : i < xs.length := (List.getElem?_eq_some_iff.1 hx).1
  rcases h with ⟨_, _, rfl⟩ | ⟨ha, b, rfl, hlo, hb, hr⟩
  · simp at hi
  · obtain ⟨A, B, h1, h2, h3⟩ := hr.get hx
    refine ⟨b, A, B, by simp [iaddrA, evNat, hi, szOf], hlo, hb, h1, h2, fun H' y hm hg hs hag hf => ?_⟩
    exact .inr ⟨ha, b, rfl, hlo, hb, h3 H' y hm (by omega) hg hs hag hf⟩
theorem wr_new {A M B N : List AV} (h : N.length = M.length) : wr (A ++ M ++ B) A.length N = A ++ N ++ B := by
  have e : (A ++ M ++ B).drop (A.length + N.length) = B := by
    rw [List.drop_append_of_le_length (by simp; omega), show A.length + N.length = (A ++ M).length by simp [h], List.drop_length]; simp
  have e2 : (A ++ M ++ B).take A.length = A := by simp
  simp only [wr, e, e2]
theorem part_put {H : Heap} {b m : Nat} {n tag : Nat} {A M B : List AV} {v : AV} (hb : H[b]? = some (.arr n tag 0 (A ++ M ++ B))) (hv : v.cells.length = m) (hm : M.length = m) (hcell : v.cells.all AV.isCell = true) : storeA m (.ptr b A.length) v H = some (H.set b (.arr n tag 0 (A ++ v.cells ++ B))) := by
  have h1 : A.length + m ≤ (A ++ M ++ B).length := by simp; omega
  unfold storeA
  rw [if_pos ⟨hv, hcell⟩]
  simp only [hb]
  rw [if_pos ⟨Nat.zero_le _, h1⟩, wr_new (by omega)]
end Go.AM.T

/- Values, copied into memory that is told. -/
namespace Go.AM.T
set_option linter.unusedVariables false
set_option linter.unusedSimpArgs false
set_option maxRecDepth 100000

/-- A copy: what was there stays; made plain it is what was copied; its shape. -/
structure Cop (H : Heap) (v v' : AV) (H' : Heap) (sz : Nat) : Prop where
  g : GrowH H H'
  f : Fresh H.length H' v' v
  l : v'.cells.length = sz
  a : ∃ cs, v' = .agg cs
  c : v'.cells.all AV.isCell = true
/-- Two variables of one's own, then copies. -/
structure Two (H : Heap) (B0 B1 : Blk) (Hc : Heap) (hi : Nat) : Prop where
  len : hi ≤ Hc.length
  low : ∀ b, b < H.length → Hc[b]? = H[b]?
  b0 : Hc[H.length]? = some B0
  b1 : Hc[H.length + 1]? = some B1
theorem Two.set {H B0 B1 Hc hi} (h : Two H B0 B1 Hc hi) {b : Nat} (hb : H.length + 2 ≤ b) (x : Blk) : Two H B0 B1 (Hc.set b x) hi :=
  ⟨by simp [h.len], fun c hc => by rw [List.getElem?_set_ne (by omega)]; exact h.low c hc, by rw [List.getElem?_set_ne (by omega)]; exact h.b0, by rw [List.getElem?_set_ne (by omega)]; exact h.b1⟩
theorem Two.grow {H B0 B1 Hc Hd hi} (h : Two H B0 B1 Hc hi) (g : GrowH Hc Hd) (h2 : H.length + 2 ≤ hi) : Two H B0 B1 Hd hi :=
  ⟨Nat.le_trans h.len g.1, fun c hc => (g.2 c (by have := h.len; omega)).trans (h.low c hc), g.at h.b0, g.at h.b1⟩
theorem r111 {v : AV} (h : IsVal v) : ∀ H, ∃ v' H', Cop H v v' H' 5 ∧ Ret env 111 [v] H v' H' := by
  induction h with
  | @mk k p s it fi xs ys hi hf hx hy bx by_ ihx ihy =>
  intro H
  have hv : IsVal (.agg [I k, .str s, it, fi, I p]) := .mk hi hf hx hy bx by_
  have hcx : ∀ x ∈ xs, x.cells.length = 5 := fun x h => (hx x h).cells.1
  have hcy : ∀ y ∈ ys.map argOf, y.cells.length = 7 := by
    intro y h
    obtain ⟨z, hz, rfl⟩ := List.mem_map.1 h
    exact argOf_cells z (hy z hz)
  refine Ret.openQ (f := c111) rfl rfl rfl (Eq.mpr (x111 _ _ _ _) ?_)
  rw [boxP_agg _ _ _ (by simpa [AV.cells] using hv.allCell), boxP_agg _ _ _ (by simp [AV.isCell])]
  refine ⟨by kernel_rfl, ?_⟩
  generalize hB0 : Blk.cells [I k, .str s, it, fi, I p] = B0
  generalize hB1 : Blk.cells [AV.int .i64 0, .str [], .nils, .nils, .int .i64 0] = B1
  have g0 : (H ++ [B0] ++ [B1])[H.length]? = some B0 := by simp
  have g1 : (H ++ [B0] ++ [B1])[H.length + 1]? = some B1 := by simp
  have lenH1 : (H ++ [B0] ++ [B1]).length = H.length + 2 := by simp
  have lenH : (H ++ [B0]).length = H.length + 1 := by simp
  have low1 : ∀ b, b < H.length → (H ++ [B0] ++ [B1])[b]? = H[b]? := by
    intro b hb
    rw [List.append_assoc, List.getElem?_append_left hb]
  generalize hH1 : H ++ [B0] ++ [B1] = H1 at *
  refine ⟨_, rfl, it, load_cells (g0.trans (by rw [← hB0])) rfl, ?_⟩
  obtain ⟨v7, h8, hc7, hr7⟩ := r87 hi hcx bx H1
  refine ⟨v7, h8, hr7, ?_⟩
  have row7 := hc7.row
  obtain ⟨X, rfl⟩ := hc7.grow
  refine ⟨_, rfl, fi, load_cells ((getElem?_grow g0 _).trans (by rw [← hB0])) rfl, ?_⟩
  obtain ⟨v11, h12, hc11, hr11⟩ := r88 hf hcy (by simpa using by_) (H1 ++ X)
  refine ⟨v11, h12, hr11, ?_⟩
  have row11 := hc11.row
  obtain ⟨Y, rfl⟩ := hc11.grow
  have g0' := getElem?_grow (getElem?_grow g0 X) Y
  have g1' := getElem?_grow (getElem?_grow g1 X) Y
  have hl0 : H.length < (H1 ++ X ++ Y).length := (List.getElem?_eq_some_iff.1 g0').1
  refine ⟨_, rfl, _, store_cells (cs := [I k, .str s, it, fi, I p]) (g0'.trans (by rw [← hB0])) (by simp) hc7.cell, ?_⟩
  refine ⟨_, rfl, _, store_cells (cs := [I k, .str s, v7, fi, I p]) (by rw [List.getElem?_set_self hl0]; rfl) (by simp) hc11.cell, ?_⟩
  refine ⟨trOk_some [2, 5] (by kernel_rfl) ?_ ?_, ?_⟩
  · simp
  · intro l hl t ht b hb
    simp at hl
    rcases hl with rfl | rfl <;> simp only [List.getElem?_cons_zero, List.getElem?_cons_succ, Option.some.injEq] at ht <;> subst ht
    · exact List.getElem?_append_left hb
    · exact List.getElem?_append_left hb
  rw [show ((H1 ++ X ++ Y).set H.length (.cells ([I k, .str s, it, fi, I p].set (0 + 2) v7))).set H.length (.cells (([I k, .str s, v7, fi, I p]).set (0 + 3) v11)) = (H1 ++ X ++ Y).set H.length (.cells [I k, .str s, v7, v11, I p]) from List.set_set _]
  generalize hm0 : (H1 ++ X ++ Y).length = m0 at *
  have hmX : (H1 ++ X).length ≤ m0 := by rw [← hm0]; simp
  have hlX : H1.length ≤ (H1 ++ X).length := by simp
  generalize hhi : (H1 ++ X).length = hi7 at *
  have t0 : Two H (.cells [I k, .str s, v7, v11, I p]) B1 ((H1 ++ X ++ Y).set H.length (.cells [I k, .str s, v7, v11, I p])) m0 := by
    refine ⟨by simp [← hm0], fun b hb => ?_, by rw [List.getElem?_set_self (by omega)], by rw [List.getElem?_set_ne (by omega)]; exact g1'⟩
    rw [List.getElem?_set_ne (by omega), List.append_assoc, List.getElem?_append_left (by omega)]
    exact low1 b hb
  have up : ∀ c q, H.length + 2 ≤ c → (H1 ++ X ++ Y)[c]? = some q → ((H1 ++ X ++ Y).set H.length (.cells [I k, .str s, v7, v11, I p]))[c]? = some q := by
    intro c q hc hq; rw [List.getElem?_set_ne (by omega)]; exact hq
  have row7' : RowS (H.length + 2) hi7 m0 ((H1 ++ X ++ Y).set H.length (.cells [I k, .str s, v7, v11, I p])) it v7 5 xs 0 := by
    have := row7 m0
    rw [lenH1] at this
    exact this.keep fun c q hc hq => up c q (by omega) (getElem?_grow hq Y)
  have row11' : RowS hi7 m0 m0 ((H1 ++ X ++ Y).set H.length (.cells [I k, .str s, v7, v11, I p])) fi v11 7 (ys.map argOf) 0 := by
    exact (row11 m0).keep fun c q hc hq => up c q (by omega) hq
  generalize hHH : (H1 ++ X ++ Y).set H.length (.cells [I k, .str s, v7, v11, I p]) = HH at *
  refine ⟨_, rfl, v7, load_cells t0.b0 rfl, _, row7'.len HH, ?_⟩
  refine ⟨fun n f H' => ∃ i : Nat, i + n = xs.length ∧ f 16 = I ↑i ∧ Two H (.cells [I k, .str s, v7, v11, I p]) B1 H' m0 ∧ RowS (H.length + 2) hi7 m0 H' it v7 5 xs i ∧ RowS hi7 m0 m0 H' fi v11 7 (ys.map argOf) 0, ⟨xs.length, 0, by simp, rfl, t0, row7', row11'⟩, ?_⟩
  clear row7' row11' t0 up hHH
  rintro n f Hc ⟨i, hi', h16, t0, row7', row11'⟩
  rw [h16, lssI, getP_some, splitB_iff]
  refine ⟨fun hlt => ?_, fun hlt => ?_⟩
  · have hlt : i < xs.length := by simpa using hlt
    have hgx := List.getElem?_eq_getElem hlt
    obtain ⟨b, A, B, ea, hb, hbh, hbb, hA, upd⟩ := row7'.at hmX hgx
    have hvx := hx xs[i] (List.getElem_mem hlt)
    refine ⟨by kernel_rfl, _, rfl, v7, load_cells t0.b0 rfl, _, rfl, v7, load_cells t0.b0 rfl, _, ea, ?_⟩
    show getP _ _
    obtain ⟨y, H', cop, hr⟩ := ihx _ (List.getElem_mem hlt) Hc
    rw [← hA, part_load hbb hvx.cells.2 hvx.cells.1, getP_some, callP_eq hr, ea, getP_some, ← hA, part_put (cop.g.at hbb) cop.l hvx.cells.1 cop.c, getH_some]
    refine ⟨trOk_some [8] (by kernel_rfl) ?_ ?_, ?_⟩
    · simp; exact cop.g.1
    · intro l hl t ht c hc
      simp at hl; subst hl; simp at ht; subst ht
      exact cop.g.2 c hc
    have : xs.length < 4611686018427387904 := by simp only [BIG] at bx; omega
    rw [add1 (by omega), getP_some]
    refine ⟨n - 1, by omega, i + 1, by omega, rfl, (t0.grow cop.g (by omega)).set hb _, upd H' y t0.len cop.g cop.l cop.a cop.f, ?_⟩
    refine (row11'.keep fun c q hc hq => ?_)
    rw [List.getElem?_set_ne (by omega)]
    exact cop.g.at hq
  · have hix : i = xs.length := by have : ¬ i < xs.length := by simpa using hlt
                                   omega
    subst hix
    refine ⟨_, rfl, v11, load_cells t0.b0 rfl, _, row11'.len Hc, ?_⟩
    refine ⟨fun n f H' => ∃ i : Nat, i + n = ys.length ∧ f 33 = I ↑i ∧ Two H (.cells [I k, .str s, v7, v11, I p]) B1 H' m0 ∧ RowS (H.length + 2) hi7 m0 H' it v7 5 xs xs.length ∧ RowS hi7 m0 m0 H' fi v11 7 (ys.map argOf) i, ⟨ys.length, 0, by simp, by rw [List.length_map]; rfl, t0, row7', row11'⟩, ?_⟩
    clear row7' row11' t0
    rintro n2 f2 Hc ⟨i, hi', h33, t0, row7', row11'⟩
    rw [h33, lssI, getP_some, splitB_iff]
    refine ⟨fun hlt => ?_, fun hlt => ?_⟩
    · have hlt : i < ys.length := by simpa using hlt
      have hgx := get_map (f := argOf) hlt
      obtain ⟨b, A, B, ea, hb, hbh, hbb, hA, upd⟩ := row11'.at (Nat.le_refl _) hgx
      have hvx := hy ys[i] (List.getElem_mem hlt)
      have hbb2 : Hc[b]? = some (.arr 7 0 0 ((A ++ [.str ys[i].1]) ++ ys[i].2.1.cells ++ ([I ys[i].2.2] ++ B))) := by
        rw [hbb, show (argOf ys[i]).cells = AV.str ys[i].1 :: (ys[i].2.1.cells ++ [I ys[i].2.2]) from rfl]; simp
      have hA2 : (A ++ [AV.str ys[i].1]).length = i * 7 + 1 := by simp [hA]
      refine ⟨by kernel_rfl, _, rfl, v11, load_cells t0.b0 rfl, _, rfl, v11, load_cells t0.b0 rfl, _, ea, _, rfl, ?_⟩
      show getP _ _
      obtain ⟨y, H', cop, hr⟩ := ihy _ (List.getElem_mem hlt) Hc
      rw [← hA2, part_load hbb2 hvx.cells.2 hvx.cells.1, getP_some, callP_eq hr, ea, getP_some, faddr_ptr, getP_some, ← hA2, part_put (cop.g.at hbb2) cop.l hvx.cells.1 cop.c, getH_some]
      refine ⟨trOk_some [9] (by kernel_rfl) ?_ ?_, ?_⟩
      · simp; exact cop.g.1
      · intro l hl t ht c hc
        simp at hl; subst hl; simp at ht; subst ht
        exact cop.g.2 c hc
      have : ys.length < 4611686018427387904 := by simp only [BIG] at by_; omega
      rw [add1 (by omega), getP_some]
      have e2 : (A ++ [AV.str ys[i].1]) ++ y.cells ++ ([I ys[i].2.2] ++ B) = A ++ (argOf (ys[i].1, y, ys[i].2.2)).cells ++ B := by
        rw [show (argOf (ys[i].1, y, ys[i].2.2)).cells = AV.str ys[i].1 :: (y.cells ++ [I ys[i].2.2]) from rfl]; simp
      rw [e2]
      refine ⟨n2 - 1, by omega, i + 1, by omega, rfl, (t0.grow cop.g (by omega)).set (by omega) _, ?_, upd H' (argOf (ys[i].1, y, ys[i].2.2)) t0.len cop.g ?_ ⟨_, rfl⟩ ?_⟩
      · refine (row7'.keep fun c q hc hq => ?_)
        rw [List.getElem?_set_ne (by omega)]
        exact cop.g.at hq
      · show (AV.str ys[i].1 :: (y.cells ++ [I ys[i].2.2])).length = 7
        rw [List.length_cons, List.length_append, cop.l]; rfl
      · intro H2 h2
        obtain ⟨cs, rfl⟩ := cop.a
        have := Pub.cells (cop.f H2 h2) (.inr ⟨cs, rfl⟩) (.inr ⟨cs, rfl⟩)
        exact Pub.agg (PubLF.cons (.scalar rfl) (PubLF.app this (.cons (.scalar rfl) .nil)))
    · have hix : i = ys.length := by have : ¬ i < ys.length := by simpa using hlt
                                     omega
      subst hix
      rw [show (H ++ [B0]).length = H.length + 1 from lenH]
      refine ⟨_, load_cells0 t0.b0 rfl, _, store_cells0 (t0.b1.trans (by rw [← hB1])) rfl rfl (by simp [hc7.cell, hc11.cell]; simp [AV.isCell]), ?_⟩
      have hl2 : H.length + 1 < Hc.length := (List.getElem?_eq_some_iff.1 t0.b1).1
      refine ⟨_, load_cells0 (cs := [I k, .str s, v7, v11, I p]) (by rw [List.getElem?_set_self hl2]) rfl, ?_⟩
      refine ⟨⟨by simp; omega, fun b hb => by rw [List.getElem?_set_ne (by omega)]; exact t0.low b hb⟩, ?_, rfl, ⟨_, rfl⟩, by simp [AV.cells, hc7.cell, hc11.cell]; simp [AV.isCell]⟩
      intro H2 h2
      have up : ∀ c q, H.length + 2 ≤ c → Hc[c]? = some q → H2[c]? = some q := by
        intro c q hc hq
        refine h2 c q (by omega) ?_
        rw [List.getElem?_set_ne (by omega)]; exact hq
      refine Pub.agg (.cons (.scalar rfl) (.cons (.scalar rfl) (.cons ?_ (.cons ?_ (.cons (.scalar rfl) .nil)))))
      · exact row7'.pub (fun x h => (hx x h).cells) fun c q hc hq => up c q (by omega) hq
      · rw [show ys.length = (ys.map argOf).length by simp] at row11'
        refine row11'.pub (fun y h => ?_) fun c q hc hq => up c q (by omega) hq
        obtain ⟨z, hz, rfl⟩ := List.mem_map.1 h
        exact ⟨argOf_cells z (hy z hz), argOf_mk z (hy z hz)⟩
end Go.AM.T

/- Inputs and types, copied into memory that is told. -/
namespace Go.AM.T
set_option linter.unusedVariables false
set_option linter.unusedSimpArgs false
set_option maxRecDepth 100000

structure CopC (H : Heap) (v v' : AV) (H' : Heap) : Prop where
  g : GrowH H H'
  f : Fresh H.length H' v' v
  c : v'.isCell = true
theorem r110 {a : AV} (h : IsIns a) (H : Heap) : ∃ v' H', CopC H a v' H' ∧ Ret env 110 [a] H v' H' := by
  obtain ⟨zs, h1, h2, h3⟩ := h
  have hcz : ∀ z ∈ zs.map InD.av, z.cells.length = 9 := by
    intro y h
    obtain ⟨z, hz, rfl⟩ := List.mem_map.1 h
    exact z.cells (h2 z hz)
  refine Ret.openQ (f := c110) rfl rfl rfl (Eq.mpr (x110 _ _ _ _) ?_)
  obtain ⟨v, H1, hc, hr⟩ := r66 h1 hcz (by simpa using h3) H
  refine ⟨v, H1, hr, _, hc.len _, ?_⟩
  have hg0 : GrowH H H1 := by obtain ⟨X, rfl⟩ := hc.grow; exact GrowH.app H X
  have row := hc.row H1.length
  have hcell := hc.cell
  have hH1 := hg0.1
  refine ⟨fun n f H' => ∃ i : Nat, i + n = zs.length ∧ f 8 = I ↑i ∧ GrowH H H' ∧ H1.length ≤ H'.length ∧ RowS H.length H1.length H1.length H' a v 9 (zs.map InD.av) i, ⟨zs.length, 0, by simp, rfl, hg0, Nat.le_refl _, row⟩, ?_⟩
  clear row hc hg0
  rintro n f Hc ⟨i, hi', h8, hg, hl, row⟩
  rw [h8, lssI, getP_some, splitB_iff]
  refine ⟨fun hlt => ?_, fun hlt => ?_⟩
  · have hlt : i < zs.length := by simpa using hlt
    have hgx := get_map (f := InD.av) hlt
    obtain ⟨b, A, B, ea, hb, hbh, hbb, hA, upd⟩ := row.at (Nat.le_refl _) hgx
    have hvx := h2 zs[i] (List.getElem_mem hlt)
    have hbb2 : Hc[b]? = some (.arr 9 0 0 ((A ++ [.str zs[i].n, .str zs[i].t, .bool zs[i].has]) ++ zs[i].v.cells ++ ([I zs[i].p] ++ B))) := by
      rw [hbb, show (zs[i].av).cells = AV.str zs[i].n :: .str zs[i].t :: .bool zs[i].has :: (zs[i].v.cells ++ [I zs[i].p]) from rfl]; simp
    have hA2 : (A ++ [AV.str zs[i].n, .str zs[i].t, .bool zs[i].has]).length = i * 9 + 3 := by simp [hA]
    obtain ⟨y, H', cop, hr'⟩ := r111 hvx Hc
    rw [ea, getP_some, faddr_ptr, getP_some, ← hA2, part_load hbb2 hvx.cells.2 hvx.cells.1, getP_some, callP_eq hr', getP_some, faddr_ptr, getP_some, ← hA2, part_put (cop.g.at hbb2) cop.l hvx.cells.1 cop.c, getH_some]
    have : zs.length < 4611686018427387904 := by simp only [BIG] at h3; omega
    rw [add1 (by omega), getP_some]
    have e2 : (A ++ [AV.str zs[i].n, .str zs[i].t, .bool zs[i].has]) ++ y.cells ++ ([I zs[i].p] ++ B) = A ++ (InD.av ⟨zs[i].n, zs[i].t, zs[i].has, y, zs[i].p⟩).cells ++ B := by
      rw [show (InD.av ⟨zs[i].n, zs[i].t, zs[i].has, y, zs[i].p⟩).cells = AV.str zs[i].n :: .str zs[i].t :: .bool zs[i].has :: (y.cells ++ [I zs[i].p]) from rfl]; simp
    rw [e2]
    refine ⟨n - 1, by omega, i + 1, by omega, rfl, ⟨by have := hg.1; have := cop.g.1; simp; omega, fun c hc => ?_⟩, by have := cop.g.1; simp; omega, upd H' (InD.av ⟨zs[i].n, zs[i].t, zs[i].has, y, zs[i].p⟩) hl cop.g ?_ ⟨_, rfl⟩ ?_⟩
    · rw [List.getElem?_set_ne (by omega), cop.g.2 c (by have := hg.1; omega)]; exact hg.2 c hc
    · show (AV.str zs[i].n :: .str zs[i].t :: .bool zs[i].has :: (y.cells ++ [I zs[i].p])).length = 9
      simp only [List.length_cons, List.length_append, cop.l]; rfl
    · intro H2 h2'
      obtain ⟨cs, rfl⟩ := cop.a
      have := Pub.cells (cop.f H2 h2') (.inr ⟨cs, rfl⟩) (.inr ⟨cs, rfl⟩)
      exact Pub.agg (PubLF.cons (.scalar rfl) (PubLF.cons (.scalar rfl) (PubLF.cons (.scalar rfl) (PubLF.app this (.cons (.scalar rfl) .nil)))))
  · have hix : i = (zs.map InD.av).length := by have : ¬ i < zs.length := by simpa using hlt
                                                rw [List.length_map]; omega
    subst hix
    refine ⟨hg, fun H2 h2' => row.pub (fun y h => ?_) fun c q hc hq => h2' c q (by omega) hq, hcell⟩
    obtain ⟨z, hz, rfl⟩ := List.mem_map.1 h
    exact ⟨z.cells (h2 z hz), mk_cells (z.cells (h2 z hz))⟩
/-- Made plain it is 'a', by blocks from lo to M alone. -/
def Stab (lo M : Nat) (H : Heap) (v a : AV) : Prop := ∀ H2 : Heap, (∀ c q, lo ≤ c → c < M → H[c]? = some q → H2[c]? = some q) → Pub true H2 v a
theorem Cloned.stab {a : AV} {l : List Str} {H H' : Heap} {v : AV} (h : Cloned none a (strs l) H v H') : Stab H.length H'.length H' v a := by
  intro H2 h2
  rcases h with ⟨rfl, _, rfl, rfl⟩ | ⟨rfl, b, X, rfl, rfl, hb, hx⟩
  · exact Pub.scalar rfl
  · rw [strs_flat] at hx
    have := Pub.row (fr := true) (h2 b _ hb (List.getElem?_eq_some_iff.1 hx).1 hx) (strs_scalar l)
    exact this
theorem Fresh.stab {m : Nat} {H : Heap} {v a : AV} (h : Fresh m H v a) : Stab m H.length H v a :=
  fun H2 h2 => h H2 fun b x hb hx => h2 b x hb (List.getElem?_eq_some_iff.1 hx).1 hx
theorem Stab.keep {lo M lo' M' : Nat} {H H' : Heap} {v a : AV} (h : Stab lo M H v a) (h1 : lo' ≤ lo) (h2 : M ≤ M') (hk : ∀ c q, lo ≤ c → c < M → H[c]? = some q → H'[c]? = some q) : Stab lo' M' H' v a :=
  fun H2 h3 => h H2 fun c q hc hm hq => h3 c q (by omega) (by omega) (hk c q hc hm hq)
/-- A slice of one's own that can be written. -/
def Wr (lo : Nat) (H : Heap) (v : AV) (sz : Nat) (sh : Option Nat) : Prop := v = .nils ∨ ∃ b n cs, v = .sl b 0 n sh ∧ lo ≤ b ∧ H[b]? = some (.arr sz 0 0 cs) ∧ cs.length = n * sz ∧ n < 4611686018427387904 ∧ szOf sh = sz
structure Own9 (H : Heap) (d : TDef) (v' : AV) (H' : Heap) : Prop where
  c : Cop H d.av v' H' 7
  s : ∃ k nm v7 v25 v11 inp po, v' = .agg [k, nm, v7, v25, v11, inp, po] ∧ Wr (H.length + 2) H' v11 1 none ∧ Wr (H.length + 2) H' v25 4 (some 4)
theorem Cloned.wr {sh : Option Nat} {a : AV} {xs : List AV} {H H' H2 : Heap} {v : AV} (h : Cloned sh a xs H v H') (hc : ∀ x ∈ xs, x.cells.length = szOf sh) (hl : xs.length < 4611686018427387904) {lo : Nat} (hlo : lo ≤ H.length) (hk : ∀ b x, H.length ≤ b → H'[b]? = some x → H2[b]? = some x) : Wr lo H2 v (szOf sh) sh := by
  rcases h with ⟨rfl, rfl, rfl, rfl⟩ | ⟨rfl, b, X, rfl, rfl, hb, hx⟩
  · exact .inl rfl
  · exact .inr ⟨b, _, _, rfl, by omega, hk b _ hb hx, flat_len hc, hl, rfl⟩
theorem r109 {d : TDef} (h : d.good) (H : Heap) : ∃ v' H', Own9 H d v' H' ∧ Ret env 109 [d.av] H v' H' := by
  obtain ⟨k, nm, im, fi, me, inp, po⟩ := d
  obtain ⟨hf, hin, him, hme, hnm⟩ := h
  simp only at hf hin him hme hnm
  obtain ⟨fs, h1, h2, h3⟩ := hf
  refine Ret.openQ (f := c109) rfl rfl rfl (Eq.mpr (x109 _ _ _ _) ?_)
  show boxP (.agg [I k, .str nm, ostr im, fi, ostr me, inp, I po]) _ _
  rw [boxP_agg _ _ _ (by simp [ostr_cell, h1.cell, hin.cell]; simp [AV.isCell]), boxP_agg _ _ _ (by simp [AV.isCell])]
  refine ⟨by kernel_rfl, ?_⟩
  generalize hB0 : Blk.cells [I k, .str nm, ostr im, fi, ostr me, inp, I po] = B0
  generalize hB1 : Blk.cells [AV.int .i64 0, .str [], .nils, .nils, .nils, .nils, .int .i64 0] = B1
  have g0 : (H ++ [B0] ++ [B1])[H.length]? = some B0 := by simp
  have g1 : (H ++ [B0] ++ [B1])[H.length + 1]? = some B1 := by simp
  have lenH1 : (H ++ [B0] ++ [B1]).length = H.length + 2 := by simp
  have lenH : (H ++ [B0]).length = H.length + 1 := by simp
  have low1 : ∀ b, b < H.length → (H ++ [B0] ++ [B1])[b]? = H[b]? := by
    intro b hb
    rw [List.append_assoc, List.getElem?_append_left hb]
  generalize hH1 : H ++ [B0] ++ [B1] = H1 at *
  refine ⟨_, rfl, ostr im, load_cells (g0.trans (by rw [← hB0])) rfl, ?_⟩
  obtain ⟨v7, h8, hc7, hr7⟩ := r43 (ostr_like im) him H1
  refine ⟨v7, h8, hr7, ?_⟩
  have st7 := hc7.stab
  have hcl7 := hc7.cell
  obtain ⟨X, rfl⟩ := hc7.grow
  refine ⟨_, rfl, ostr me, load_cells ((getElem?_grow g0 _).trans (by rw [← hB0])) rfl, ?_⟩
  obtain ⟨v11, h12, hc11, hr11⟩ := r43 (ostr_like me) hme (H1 ++ X)
  refine ⟨v11, h12, hr11, ?_⟩
  have st11 := hc11.stab
  have hcl11 := hc11.cell
  have wr11 : ∀ H2 : Heap, (∀ b x, (H1 ++ X).length ≤ b → h12[b]? = some x → H2[b]? = some x) → Wr H1.length H2 v11 1 none := fun H2 hk => hc11.wr (strs_cells _) (by rw [List.length_map]; omega) (by simp) hk
  clear hc7 hr7 hr11
  obtain ⟨Y, rfl⟩ := hc11.grow
  have g0' := getElem?_grow (getElem?_grow g0 X) Y
  have g1' := getElem?_grow (getElem?_grow g1 X) Y
  have hl0 : H.length < (H1 ++ X ++ Y).length := (List.getElem?_eq_some_iff.1 g0').1
  have hlen3 : H.length + 2 ≤ (H1 ++ X).length := by rw [List.length_append, lenH1]; omega
  have hlen4 : (H1 ++ X).length ≤ (H1 ++ X ++ Y).length := by simp
  refine ⟨_, rfl, _, store_cells (cs := [I k, .str nm, ostr im, fi, ostr me, inp, I po]) (g0'.trans (by rw [← hB0])) (by simp) hcl7, ?_⟩
  refine ⟨_, rfl, _, store_cells (cs := [I k, .str nm, v7, fi, ostr me, inp, I po]) (by rw [List.getElem?_set_self hl0]; rfl) (by simp) hcl11, ?_⟩
  refine ⟨trOk_some [2, 5] (by kernel_rfl) ?_ ?_, ?_⟩
  · simp
  · intro l hl t ht b hb
    simp at hl
    rcases hl with rfl | rfl <;> simp only [List.getElem?_cons_zero, List.getElem?_cons_succ, Option.some.injEq] at ht <;> subst ht
    · exact List.getElem?_append_left hb
    · exact List.getElem?_append_left hb
  rw [show ((H1 ++ X ++ Y).set H.length (.cells ([I k, .str nm, ostr im, fi, ostr me, inp, I po].set (0 + 2) v7))).set H.length (.cells (([I k, .str nm, v7, fi, ostr me, inp, I po]).set (0 + 4) v11)) = (H1 ++ X ++ Y).set H.length (.cells [I k, .str nm, v7, fi, v11, inp, I po]) from List.set_set _]
  -- H4
  have c4 : ((H1 ++ X ++ Y).set H.length (.cells [I k, .str nm, v7, fi, v11, inp, I po]))[H.length]? = some (.cells [I k, .str nm, v7, fi, v11, inp, I po]) := by rw [List.getElem?_set_self hl0]
  have d4 : ((H1 ++ X ++ Y).set H.length (.cells [I k, .str nm, v7, fi, v11, inp, I po]))[H.length + 1]? = some B1 := by rw [List.getElem?_set_ne (by omega)]; exact g1'
  have up4 : ∀ c q, H.length + 2 ≤ c → (H1 ++ X ++ Y)[c]? = some q → ((H1 ++ X ++ Y).set H.length (.cells [I k, .str nm, v7, fi, v11, inp, I po]))[c]? = some q := by
    intro c q hc hq; rw [List.getElem?_set_ne (by omega)]; exact hq
  have low4 : ∀ b, b < H.length → ((H1 ++ X ++ Y).set H.length (.cells [I k, .str nm, v7, fi, v11, inp, I po]))[b]? = H[b]? := by
    intro b hb
    rw [List.getElem?_set_ne (by omega), List.append_assoc, List.getElem?_append_left (by omega)]
    exact low1 b hb
  have len4 : ((H1 ++ X ++ Y).set H.length (.cells [I k, .str nm, v7, fi, v11, inp, I po])).length = (H1 ++ X ++ Y).length := by simp
  generalize hH4 : (H1 ++ X ++ Y).set H.length (.cells [I k, .str nm, v7, fi, v11, inp, I po]) = H4 at *
  have s7 : Stab (H.length + 2) H4.length H4 v7 (ostr im) := st7.keep (by omega) (by omega) fun c q hc hm hq => up4 c q (by omega) (getElem?_grow hq Y)
  have s11 : Stab (H.length + 2) H4.length H4 v11 (ostr me) := st11.keep (by omega) (by omega) fun c q hc hm hq => up4 c q (by omega) hq
  have w11 : Wr (H.length + 2) H4 v11 1 none := by
    have := wr11 H4 fun b x hb hx => up4 b x (by omega) hx
    rw [lenH1] at this
    exact this
  clear st7 st11 wr11 hc11
  refine ⟨_, rfl, inp, load_cells c4 rfl, ?_⟩
  obtain ⟨v19, H5, cop5, hr5⟩ := r110 hin H4
  refine ⟨v19, H5, hr5, ?_⟩
  have c5 := cop5.g.at c4
  have d5 := cop5.g.at d4
  have hl5 := cop5.g.1
  refine ⟨_, rfl, _, store_cells c5 (by simp) cop5.c, ?_⟩
  show getP _ _
  -- H6
  have hl05 : H.length < H5.length := (List.getElem?_eq_some_iff.1 c5).1
  have up6 : ∀ c q, H.length + 2 ≤ c → H5[c]? = some q → (H5.set H.length (.cells ([I k, .str nm, v7, fi, v11, inp, I po].set (0 + 5) v19)))[c]? = some q := by
    intro c q hc hq; rw [List.getElem?_set_ne (by omega)]; exact hq
  have c6 : (H5.set H.length (.cells ([I k, .str nm, v7, fi, v11, inp, I po].set (0 + 5) v19)))[H.length]? = some (.cells [I k, .str nm, v7, fi, v11, v19, I po]) := by rw [List.getElem?_set_self hl05]; rfl
  have d6 : (H5.set H.length (.cells ([I k, .str nm, v7, fi, v11, inp, I po].set (0 + 5) v19)))[H.length + 1]? = some B1 := by rw [List.getElem?_set_ne (by omega)]; exact d5
  have low6 : ∀ b, b < H.length → (H5.set H.length (.cells ([I k, .str nm, v7, fi, v11, inp, I po].set (0 + 5) v19)))[b]? = H[b]? := by
    intro b hb
    rw [List.getElem?_set_ne (by omega), cop5.g.2 b (by omega)]
    exact low4 b hb
  have len6 : (H5.set H.length (.cells ([I k, .str nm, v7, fi, v11, inp, I po].set (0 + 5) v19))).length = H5.length := by simp
  generalize hH6 : H5.set H.length (.cells ([I k, .str nm, v7, fi, v11, inp, I po].set (0 + 5) v19)) = H6 at *
  have s7 : Stab (H.length + 2) H6.length H6 v7 (ostr im) := s7.keep (Nat.le_refl _) (by omega) fun c q hc hm hq => up6 c q hc (cop5.g.at hq)
  have s11 : Stab (H.length + 2) H6.length H6 v11 (ostr me) := s11.keep (Nat.le_refl _) (by omega) fun c q hc hm hq => up6 c q hc (cop5.g.at hq)
  have s19 : Stab (H.length + 2) H6.length H6 v19 inp := cop5.f.stab.keep (by omega) (by omega) fun c q hc hm hq => up6 c q (by omega) hq
  have keepW : ∀ {Ha Hb : Heap} {lo sz sh v}, Wr lo Ha v sz sh → (∀ c q, lo ≤ c → Ha[c]? = some q → Hb[c]? = some q) → Wr lo Hb v sz sh := by
    intro Ha Hb lo sz sh v h hk
    rcases h with h | ⟨b, n, cs, e, h1, h2, h3, h4, h5⟩
    · exact .inl h
    · exact .inr ⟨b, n, cs, e, h1, hk b _ h1 h2, h3, h4, h5⟩
  have w11 : Wr (H.length + 2) H6 v11 1 none := keepW w11 fun c q hc hq => up6 c q hc (cop5.g.at hq)
  have hcl19 := cop5.c
  clear cop5 hr5 c5 d5 c4 d4 up4 low4 hH4 up6 hH6
  refine ⟨_, rfl, fi, load_cells c6 rfl, ?_⟩
  have hcf : ∀ z ∈ fs.map FieldD.av, z.cells.length = 4 := by
    intro y h
    obtain ⟨z, hz, rfl⟩ := List.mem_map.1 h
    rfl
  have hfsl : fs.length < 4611686018427387904 := by simp only [BIG] at h3; omega
  obtain ⟨v25, h26, hc25, hr25⟩ := r45 h1 hcf (by simpa using h3) H6
  refine ⟨v25, h26, hr25, ?_⟩
  have row25 := hc25.row
  have hcl25 := hc25.cell
  have len25 := hc25.len
  obtain ⟨Z, rfl⟩ := hc25.grow
  clear hc25 hr25
  have c7 := getElem?_grow c6 Z
  have d7 := getElem?_grow d6 Z
  have hl07 : H.length < (H6 ++ Z).length := (List.getElem?_eq_some_iff.1 c7).1
  refine ⟨_, rfl, _, store_cells c7 (by simp) hcl25, ?_⟩
  show getP _ _
  have up8 : ∀ c q, H.length + 2 ≤ c → (H6 ++ Z)[c]? = some q → ((H6 ++ Z).set H.length (.cells ([I k, .str nm, v7, fi, v11, v19, I po].set (0 + 3) v25)))[c]? = some q := by
    intro c q hc hq; rw [List.getElem?_set_ne (by omega)]; exact hq
  have len8 : ((H6 ++ Z).set H.length (.cells ([I k, .str nm, v7, fi, v11, v19, I po].set (0 + 3) v25))).length = (H6 ++ Z).length := by simp
  have t0 : Two H (.cells [I k, .str nm, v7, v25, v11, v19, I po]) B1 ((H6 ++ Z).set H.length (.cells ([I k, .str nm, v7, fi, v11, v19, I po].set (0 + 3) v25))) (H6 ++ Z).length := by
    refine ⟨by simp, fun b hb => ?_, by rw [List.getElem?_set_self hl07]; rfl, by rw [List.getElem?_set_ne (by omega)]; exact d7⟩
    rw [List.getElem?_set_ne (by omega), List.getElem?_append_left (by omega)]
    exact low6 b hb
  have l62 : H.length + 2 ≤ H6.length := by omega
  have l6Z : H6.length ≤ (H6 ++ Z).length := by simp
  generalize hH8 : (H6 ++ Z).set H.length (.cells ([I k, .str nm, v7, fi, v11, v19, I po].set (0 + 3) v25)) = H8 at *
  have row8 : RowS H6.length (H6 ++ Z).length (H6 ++ Z).length H8 fi v25 4 (fs.map FieldD.av) 0 := (row25 _).keep fun c q hc hq => up8 c q (by omega) hq
  have s7 : Stab (H.length + 2) H6.length H8 v7 (ostr im) := s7.keep (Nat.le_refl _) (Nat.le_refl _) fun c q hc hm hq => up8 c q hc (getElem?_grow hq Z)
  have s11 : Stab (H.length + 2) H6.length H8 v11 (ostr me) := s11.keep (Nat.le_refl _) (Nat.le_refl _) fun c q hc hm hq => up8 c q hc (getElem?_grow hq Z)
  have s19 : Stab (H.length + 2) H6.length H8 v19 inp := s19.keep (Nat.le_refl _) (Nat.le_refl _) fun c q hc hm hq => up8 c q hc (getElem?_grow hq Z)
  have w11 : ∃ lo, lo = H.length + 2 ∧ (v11 = .nils ∨ ∃ b n cs, v11 = .sl b 0 n none ∧ lo ≤ b ∧ b < H6.length ∧ H8[b]? = some (.arr 1 0 0 cs) ∧ cs.length = n * 1 ∧ n < 4611686018427387904) := by
    refine ⟨_, rfl, ?_⟩
    rcases w11 with h | ⟨b, n, cs, e, h1, h2, h3, h4, h5⟩
    · exact .inl h
    · exact .inr ⟨b, n, cs, e, h1, (List.getElem?_eq_some_iff.1 h2).1, up8 b _ h1 (getElem?_grow h2 Z), h3, h4⟩
  obtain ⟨_, rfl, w11⟩ := w11
  have hwr25 : ∀ {Hb : Heap}, (∀ b, v25 = .sl b 0 fs.length (some 4) → H6.length ≤ b → ∃ cs, Hb[b]? = some (.arr 4 0 0 cs) ∧ cs.length = fs.length * 4) → Wr (H.length + 2) Hb v25 4 (some 4) := by
    intro Hb hb
    rcases row25 0 with ⟨_, h, _⟩ | ⟨_, b, h, hlo, _, _⟩
    · exact .inl h
    · rw [List.length_map] at h
      obtain ⟨cs, q1, q2⟩ := hb b h hlo
      exact .inr ⟨b, _, cs, h, by omega, q1, q2, hfsl, rfl⟩
  clear up8 hH8 c7 d7 row25 c6 d6 low6
  generalize hm0 : (H6 ++ Z).length = m0 at *
  refine ⟨_, rfl, v25, load_cells t0.b0 rfl, _, row8.len H8, ?_⟩
  refine ⟨fun n f Hc => ∃ i : Nat, i + n = fs.length ∧ f 23 = I ↑i ∧ Two H (.cells [I k, .str nm, v7, v25, v11, v19, I po]) B1 Hc m0 ∧ (∀ c q, H.length + 2 ≤ c → c < H6.length → H8[c]? = some q → Hc[c]? = some q) ∧ RowS H6.length m0 m0 Hc fi v25 4 (fs.map FieldD.av) i, ⟨fs.length, 0, by simp, by rw [List.length_map]; rfl, t0, fun _ _ _ _ h => h, row8⟩, ?_⟩
  clear row8 t0
  rintro n f Hc ⟨i, hi', h23, t0, kp, row⟩
  rw [h23, lssI, getP_some, splitB_iff]
  refine ⟨fun hlt => ?_, fun hlt => ?_⟩
  · have hlt : i < fs.length := by simpa using hlt
    have hgx := get_map (f := FieldD.av) hlt
    obtain ⟨b, A, B, ea, hb, hbh, hbb, hA, upd⟩ := row.at (Nat.le_refl _) hgx
    have hvx := h2 fs[i] (List.getElem_mem hlt)
    have hbb2 : Hc[b]? = some (.arr 4 0 0 ((A ++ [.str fs[i].n]) ++ [fs[i].args] ++ ([.str fs[i].t, I fs[i].p] ++ B))) := by
      rw [hbb, show (fs[i].av).cells = [AV.str fs[i].n, fs[i].args, .str fs[i].t, I fs[i].p] from rfl]; simp
    have hA2 : (A ++ [AV.str fs[i].n]).length = i * 4 + 1 := by simp [hA]
    refine ⟨by kernel_rfl, _, rfl, v25, load_cells t0.b0 rfl, _, rfl, v25, load_cells t0.b0 rfl, _, ea, _, rfl, ?_⟩
    show getP _ _
    obtain ⟨y, H', cop, hr⟩ := r110 hvx Hc
    have hy1 : y.cells = [y] := cell1 cop.c
    rw [← hA2, part_load1 hbb2, getP_some, callP_eq hr, ea, getP_some, faddr_ptr, getP_some, ← hA2, part_put (m := 1) (cop.g.at hbb2) (by rw [hy1]; rfl) rfl (by rw [hy1]; simp [cop.c]), getH_some, hy1]
    refine ⟨trOk_some [9] (by kernel_rfl) ?_ ?_, ?_⟩
    · simp; exact cop.g.1
    · intro l hl t ht c hc
      simp at hl; subst hl; simp at ht; subst ht
      exact cop.g.2 c hc
    rw [add1 (by omega), getP_some]
    have e2 : (A ++ [AV.str fs[i].n]) ++ [y] ++ ([AV.str fs[i].t, I fs[i].p] ++ B) = A ++ (FieldD.av ⟨fs[i].n, y, fs[i].t, fs[i].p⟩).cells ++ B := by
      rw [show (FieldD.av ⟨fs[i].n, y, fs[i].t, fs[i].p⟩).cells = [AV.str fs[i].n, y, .str fs[i].t, I fs[i].p] from rfl]; simp
    rw [e2]
    refine ⟨n - 1, by omega, i + 1, by omega, rfl, (t0.grow cop.g (by omega)).set (by omega) _, ?_, upd H' (FieldD.av ⟨fs[i].n, y, fs[i].t, fs[i].p⟩) t0.len cop.g rfl ⟨_, rfl⟩ ?_⟩
    · intro c q hc hm hq
      rw [List.getElem?_set_ne (by omega)]
      exact cop.g.at (kp c q hc hm hq)
    · intro H2 h2'
      exact Pub.agg (.cons (.scalar rfl) (.cons (cop.f H2 h2') (.cons (.scalar rfl) (.cons (.scalar rfl) .nil))))
  · have hix : i = (fs.map FieldD.av).length := by have : ¬ i < fs.length := by simpa using hlt
                                                   rw [List.length_map]; omega
    subst hix
    have hcs : ([I k, .str nm, v7, v25, v11, v19, I po] : List AV).all AV.isCell = true := by simp [hcl7, hcl11, hcl25, hcl19]; simp [AV.isCell]
    rw [show (H ++ [B0]).length = H.length + 1 from lenH]
    refine ⟨_, load_cells0 t0.b0 rfl, _, store_cells0 (t0.b1.trans (by rw [← hB1])) rfl rfl hcs, ?_⟩
    have hl2 : H.length + 1 < Hc.length := (List.getElem?_eq_some_iff.1 t0.b1).1
    refine ⟨_, load_cells0 (cs := [I k, .str nm, v7, v25, v11, v19, I po]) (by rw [List.getElem?_set_self hl2]) rfl, ?_⟩
    have upF : ∀ c q, H.length + 2 ≤ c → Hc[c]? = some q → (Hc.set (H.length + 1) (.cells [I k, .str nm, v7, v25, v11, v19, I po]))[c]? = some q := by
      intro c q hc hq; rw [List.getElem?_set_ne (by omega)]; exact hq
    refine ⟨⟨⟨by simp; omega, fun b hb => by rw [List.getElem?_set_ne (by omega)]; exact t0.low b hb⟩, ?_, rfl, ⟨_, rfl⟩, hcs⟩, _, _, v7, v25, v11, v19, _, rfl, ?_, ?_⟩
    · intro H2 h2'
      have up : ∀ c q, H.length + 2 ≤ c → Hc[c]? = some q → H2[c]? = some q := fun c q hc hq => h2' c q (by omega) (upF c q hc hq)
      refine Pub.agg (.cons (.scalar rfl) (.cons (.scalar rfl) (.cons ?_ (.cons ?_ (.cons ?_ (.cons ?_ (.cons (.scalar rfl) .nil)))))))
      · exact s7 H2 fun c q hc hm hq => up c q hc (kp c q hc hm hq)
      · refine row.pub (fun y h => ?_) fun c q hc hq => up c q (by omega) hq
        obtain ⟨z, hz, rfl⟩ := List.mem_map.1 h
        exact ⟨rfl, rfl⟩
      · exact s11 H2 fun c q hc hm hq => up c q hc (kp c q hc hm hq)
      · exact s19 H2 fun c q hc hm hq => up c q hc (kp c q hc hm hq)
    · rcases w11 with h | ⟨b, n, cs, e, q1, q2, q3, q4, q5⟩
      · exact .inl h
      · exact .inr ⟨b, n, cs, e, q1, upF b _ q1 (kp b _ q1 q2 q3), q4, q5, rfl⟩
    · refine hwr25 fun b hb hlo => ?_
      rcases row with ⟨_, h, _⟩ | ⟨_, b', h, hlo', _, ys, y1, y2, y3⟩
      · rw [h] at hb; cases hb
      · rw [h] at hb; injection hb with hb; subst hb
        refine ⟨_, upF _ _ (by omega) y2, ?_⟩
        rw [List.drop_length, List.flatMap_nil, List.append_nil, flat_len (sz := 4), y1, List.length_map]
        intro y hy
        obtain ⟨j, hj⟩ := List.getElem?_of_mem hy
        have hjl : j < ys.length := (List.getElem?_eq_some_iff.1 hj).1
        exact (y3 j y _ hj (List.getElem?_eq_getElem (by omega))).1
end Go.AM.T

/- The making of a table of types out of memory of one's own. -/
namespace Go.AM.T
set_option linter.unusedVariables false
set_option linter.unusedSimpArgs false
set_option maxRecDepth 100000

theorem OutL.pubF {fr : Bool} {v H l} (h : OutL v H l) : Pub fr H v (ostr (ordO l)) := by
  rcases h with ⟨rfl, rfl⟩ | ⟨b, rfl, hb, h0⟩
  · exact Pub.scalar rfl
  · have : l ≠ [] := by intro e; subst e; simp at h0
    simp only [ordO, this, if_false, ostr]
    have := Pub.row (fr := fr) hb (strs_scalar l)
    simpa using this
/-- A copy that the table holds. -/
structure Ent (H : Heap) (ov v' v : AV) : Prop where
  l : v'.cells.length = 7
  a : ∃ cs, v' = .agg cs
  c : v'.cells.all AV.isCell = true
  s : ∃ lo M, 2 ≤ lo ∧ M ≤ H.length ∧ Stab lo M H v' v ∧ ∀ b n, ov = .sl b 0 n none → ¬ (lo ≤ b ∧ b < M)
structure HI2 (H : Heap) (t : Tab) (vs : List AV) (l : List Str) : Prop where
  m : H[0]? = some (.map t.keys vs)
  n : vs.length = t.length
  c : ∃ ov, H[1]? = some (.cells [.map 0, ov]) ∧ OutL ov H l ∧ ∀ (j : Nat) (v : AV) (p : Str × TDef), vs[j]? = some v → t[j]? = some p → Ent H ov v p.2.av
theorem Ent.grow {H ov v' v} (h : Ent H ov v' v) {H' : Heap} (g : GrowH H H') : Ent H' ov v' v := by
  obtain ⟨lo, M, h1, h2, h3, h4⟩ := h.s
  exact ⟨h.l, h.a, h.c, lo, M, h1, Nat.le_trans h2 g.1, h3.keep (Nat.le_refl _) (Nat.le_refl _) fun c q _ _ hq => g.at hq, h4⟩
theorem OutL.growH {v : AV} {H H' : Heap} {l : List Str} (h : OutL v H l) (g : GrowH H H') : OutL v H' l := by
  rcases h with h | ⟨b, h1, h2, h3⟩
  · exact .inl h
  · exact .inr ⟨b, h1, g.at h2, h3⟩
theorem HI2.grow {H t vs l} (h : HI2 H t vs l) {H' : Heap} (g : GrowH H H') : HI2 H' t vs l := by
  obtain ⟨ov, h1, h2, h3⟩ := h.c
  exact ⟨g.at h.m, h.n, ov, g.at h1, h2.growH g, fun j v p hv hp => (h3 j v p hv hp).grow g⟩
theorem HI2.two {H t vs l} (h : HI2 H t vs l) : 2 ≤ H.length := by
  obtain ⟨ov, h1, h2⟩ := h.c
  have := (List.getElem?_eq_some_iff.1 h1).1
  omega
theorem HI2.put {H t vs l} (h : HI2 H t vs l) {n : Str} {d : TDef} {v : AV} (hv : ∀ ov, H[1]? = some (.cells [.map 0, ov]) → Ent H ov v d.av) : HI2 (H.set 0 (.map (t.keys ++ [.str n]) (vs ++ [v]))) (t ++ [(n, d)]) (vs ++ [v]) l := by
  have h2 := h.two
  obtain ⟨ov, h1, ho, he⟩ := h.c
  have up : ∀ {c q}, 1 ≤ c → H[c]? = some q → (H.set 0 (.map (t.keys ++ [.str n]) (vs ++ [v])))[c]? = some q := by
    intro c q hc hq; rw [List.getElem?_set_ne (by omega)]; exact hq
  refine ⟨by rw [List.getElem?_set_self (by omega)]; simp [Tab.keys], by simp [h.n], ov, up (Nat.le_refl _) h1, ?_, ?_⟩
  · rcases ho with ho | ⟨b, e, hb, h0⟩
    · exact .inl ho
    · refine .inr ⟨b, e, ?_, h0⟩
      have : (0 : Nat) ≠ b := by intro e; subst e; rw [h.m] at hb; cases hb
      exact up (by omega) hb
  · intro j w p hw hp
    have mk : ∀ {w : AV} {p : Str × TDef}, Ent H ov w p.2.av → Ent (H.set 0 (.map (t.keys ++ [.str n]) (vs ++ [v]))) ov w p.2.av := by
      intro w p h
      obtain ⟨lo, M, h1, h2, h3, h4⟩ := h.s
      exact ⟨h.l, h.a, h.c, lo, M, h1, by simpa using h2, h3.keep (Nat.le_refl _) (Nat.le_refl _) fun c q hc _ hq => up (by omega) hq, h4⟩
    by_cases hj : j < vs.length
    · rw [List.getElem?_append_left hj] at hw
      rw [List.getElem?_append_left (by rw [← h.n]; exact hj)] at hp
      exact mk (he j w p hw hp)
    · have hjl : j < (vs ++ [v]).length := (List.getElem?_eq_some_iff.1 hw).1
      have : j = vs.length := by simp at hjl; omega
      subst this
      rw [List.getElem?_append_right (Nat.le_refl _)] at hw
      rw [List.getElem?_append_right (by rw [h.n]; exact Nat.le_refl _), h.n] at hp
      simp at hw hp
      subst hw; subst hp
      exact mk (hv ov h1)
theorem HI2.order {H H' t vs l} {v : AV} {s : Str} (h : HI2 H t vs l) (ho : OutL v H' (l ++ [s])) (hl : H.length ≤ H'.length)
    (hk : ∀ ov, H[1]? = some (.cells [.map 0, ov]) → OutL ov H l → ∀ b x, H[b]? = some x → ov ≠ .sl b 0 l.length none → H'[b]? = some x) (hn : ∀ b, v = .sl b 0 (l ++ [s]).length none → H.length ≤ b) : HI2 (H'.set 1 (.cells [.map 0, v])) t vs (l ++ [s]) := by
  have h2 := h.two
  obtain ⟨ov, h1, ho1, he⟩ := h.c
  have hk' := hk ov h1 ho1
  have h1' := hk' 1 _ h1 (ho1.ne h1 fun cs q => by cases q)
  have hl1 : 1 < H'.length := (List.getElem?_eq_some_iff.1 h1').1
  refine ⟨by rw [List.getElem?_set_ne (by omega)]; exact hk' 0 _ h.m (ho1.ne h.m fun cs q => by cases q), h.n, v, by rw [List.getElem?_set_self hl1], ?_, ?_⟩
  · rcases ho with ho | ⟨b, e, hb, h0⟩
    · exact .inl ho
    · refine .inr ⟨b, e, ?_, h0⟩
      have : (1 : Nat) ≠ b := by intro e; subst e; rw [h1'] at hb; cases hb
      rw [List.getElem?_set_ne this]; exact hb
  · intro j w p hw hp
    have e := he j w p hw hp
    obtain ⟨lo, M, q1, q2, q3, q4⟩ := e.s
    refine ⟨e.l, e.a, e.c, lo, M, q1, by simp; omega, q3.keep (Nat.le_refl _) (Nat.le_refl _) fun c q hc hm hq => ?_, ?_⟩
    · rw [List.getElem?_set_ne (by omega)]
      exact hk' c q hq fun e => q4 c _ e ⟨hc, hm⟩
    · intro b n hb hcon
      rcases ho with ⟨ho, _⟩ | ⟨c, e, _, _⟩
      · rw [ho] at hb; cases hb
      · have : c = b := by rw [e] at hb; injection hb
        have := hn c e
        omega
theorem HI2.pub {H t vs l} (h : HI2 H t vs l) : Pub true H (.ptr 1 0) (TT t (ordO l)) := by
  obtain ⟨ov, h1, h2, h3⟩ := h.c
  refine Pub.ptr h1 (by simp) ?_
  have hv : PubLF true H vs t.vals := by
    have hn := h.n
    have : ∀ (vs : List AV) (t : Tab), vs.length = t.length → (∀ (j : Nat) (v : AV) (p : Str × TDef), vs[j]? = some v → t[j]? = some p → Pub true H v p.2.av) → PubLF true H vs t.vals := by
      intro vs
      induction vs with
      | nil => intro t h _; have : t = [] := List.eq_nil_of_length_eq_zero h.symm; subst this; exact .nil
      | cons v r ih =>
        intro t h hh
        cases t with
        | nil => simp at h
        | cons p q => exact .cons (hh 0 v p rfl rfl) (ih q (by simpa using h) fun j v p hv hp => hh (j + 1) v p hv hp)
    refine this vs t hn fun j v p hv hp => ?_
    obtain ⟨lo, M, q1, q2, q3, q4⟩ := (h3 j v p hv hp).s
    exact q3 H fun _ _ _ _ h => h
  have hks : ∀ x ∈ t.keys, x.scalar = true := by
    intro x hx
    obtain ⟨p, _, rfl⟩ := List.mem_map.1 hx
    rfl
  exact .cons (Pub.map h.m (PubLF.scalars hks) hv) (.cons h2.pubF .nil)
theorem mapupd_any {t : Tab} {vs : List AV} {b : Nat} {H : Heap} (hb : H[b]? = some (.map t.keys vs)) {n : Str} {v : AV} (h : t.look n = none) : mapupdA .str (.map b) (.str n) v H = some (H.set b (.map (t.keys ++ [.str n]) (vs ++ [v]))) := by
  simp only [mapupdA, AV.isKey, decide_true, if_true, hb, findK_str, look_none h, Option.map_none, Option.map_some]
theorem lookup_any {t : Tab} {vs : List AV} {b : Nat} {H : Heap} (hb : H[b]? = some (.map t.keys vs)) (n : Str) (hl : vs.length = t.length) : ∃ val, lookupA .str (.agg [I 0, .str [], .nils, .nils, .nils, .nils, I 0]) (.map b) (.str n) true H = some (.tup [val, .bool (t.look n).isSome]) ∧ (val = zeroDef.av ∨ ∃ (j : Nat) (p : Str × TDef), vs[j]? = some val ∧ t[j]? = some p) := by
  have := look_idx n t
  simp only [lookupA, AV.isKey, decide_true, if_true, mapOf, hb, Option.bind_some, findK_str, Option.map_some, Nat.add_zero]
  cases hi : t.findIdx? fun p => p.1 == n with
  | none => rw [hi] at this; exact ⟨zeroDef.av, by simp [this, zeroDef_av], .inl rfl⟩
  | some i =>
    rw [hi] at this
    obtain ⟨d, h1, h2⟩ := this
    have hil : i < t.length := by have := (List.getElem?_eq_some_iff.1 h2).1; simpa [Tab.vals] using this
    exact ⟨vs[i], by simp [h1, List.getD_eq_getElem?_getD, hl, hil], .inr ⟨i, t[i], by simp [hl, hil], by simp [hil]⟩⟩
theorem primDef_ent (s : Str) {H : Heap} (h : 2 ≤ H.length) (ov : AV) : Ent H ov (primDef s).av (primDef s).av := by
  refine ⟨rfl, ⟨_, rfl⟩, rfl, 2, 2, Nat.le_refl _, h, fun H2 _ => ?_, fun b n _ hc => by omega⟩
  exact Pub.agg (PubLF.scalars (by simp [primDef, ostr, AV.scalar]))
theorem cells7 {v : AV} (h : v.cells.length = 7) (a : ∃ cs, v = .agg cs) (c : v.cells.all AV.isCell = true) (H : Heap) : storeA 7 (.ptr H.length 0) v (H ++ [Blk.cells [I 0, .str [], .nils, .nils, .nils, .nils, I 0]]) = some (H ++ [.cells v.cells]) := by
  obtain ⟨cs, rfl⟩ := a
  have := store_cells0 (H := H ++ [Blk.cells [I 0, .str [], .nils, .nils, .nils, .nils, I 0]]) (b := H.length) (n := 7) (cs := [I 0, .str [], .nils, .nils, .nils, .nils, I 0]) (vs := cs) (by simp) rfl h c
  rw [set_last] at this
  exact this
theorem r108 {a : AV} {l : List TDef} (ha : SLike a (l.map TDef.av)) (hg : ∀ d ∈ l, d.good) (hl : l.length ≤ 8796093022000) {args : List AV} {H : Heap} (hp : PubL H args [a]) (hfr : AV.noIdsL args = false) : Ret env 108 args H (TT (newT l).1 (ordO (newT l).2)) H := by
  refine Ret.isoX (f := c108) rfl rfl rfl hp (Eq.mpr (x108 _ _ _ _) ?_)
  rw [hfr]
  refine ⟨_, rfl, ?_⟩
  show boxP (.agg [.map 0, .nils]) ([] ++ [Blk.map [] []]) _
  rw [boxP_agg _ _ _ (by simp [AV.isCell])]
  show callP env 20 [] ([Blk.map [] []] ++ [Blk.cells [.map 0, .nils]]) _
  rw [k20]
  refine ⟨_, rfl, ?_⟩
  refine ⟨fun n f H' => ∃ i : Nat, i + n = 5 ∧ f 15 = I ↑i ∧ ∃ vs, HI2 H' ((fiveL.take i).map fun s => (s, primDef s)) vs [], ⟨5, 0, by simp, rfl, [], rfl, rfl, .nils, rfl, OutL.nil _, fun j v p h => by simp at h⟩, ?_⟩
  rintro n f H1 ⟨i, hi, h15, vs, hh⟩
  rw [h15, lssI, getP_some, splitB_iff]
  refine ⟨fun hlt => ?_, fun hlt => ?_⟩
  · have hlt : i < fiveL.length := by simpa using hlt
    obtain ⟨ov, hc, ho, he⟩ := hh.c
    rw [(SLike.data (strs fiveL)).iaddr (get_map hlt) (strs_cells _), getP_some]
    refine ⟨.str fiveL[i], rfl, _, rfl, _, rfl, .map 0, load_cells hc rfl, _, rfl, ?_⟩
    show getH (mapupdA .str (.map 0) (.str fiveL[i]) (primDef fiveL[i]).av H1) _
    have hi9 : i < 5 := hlt
    rw [mapupd_any hh.m (five_absent hlt), getH_some, add1 (by omega), getP_some]
    refine ⟨n - 1, by omega, i + 1, by omega, rfl, vs ++ [(primDef fiveL[i]).av], ?_⟩
    have e : (fiveL.take (i + 1)).map (fun s => (s, primDef s)) = (fiveL.take i).map (fun s => (s, primDef s)) ++ [(fiveL[i], primDef fiveL[i])] := by
      rw [List.take_succ, List.getElem?_eq_getElem hlt, List.map_append]; rfl
    rw [e]
    exact hh.put fun ov _ => primDef_ent _ hh.two ov
  have hi5 : i = 5 := by have : ¬ i < fiveL.length := by simpa using hlt
                         simp [fiveL] at this; omega
  subst hi5
  rw [ha.len, getP_some, List.length_map]
  refine ⟨fun n f H' => ∃ i : Nat, i + n = l.length ∧ f 29 = I ↑i ∧ ∃ vs, HI2 H' ((l.take i).foldl step (fiveT, [])).1 vs ((l.take i).foldl step (fiveT, [])).2, ⟨l.length, 0, by simp, rfl, vs, hh⟩, ?_⟩
  clear hh hi h15 hlt
  rintro n2 f2 H2 ⟨i, hi, h29, vs, hh⟩
  rw [h29, lssI, getP_some, splitB_iff]
  refine ⟨fun hlt => ?_, fun hlt => ?_⟩
  · have hlt : i < l.length := by simpa using hlt
    have hgi := List.getElem?_eq_getElem hlt
    have hgood := hg l[i] (List.getElem_mem hlt)
    have hst := fold_take hgi
    have hlen := (newT_ok (l.take i) (fiveT, []) fiveT_ok fun d hd => (hg d (List.mem_of_mem_take hd)).ok).2
    generalize (l.take i).foldl step (fiveT, []) = S at *
    obtain ⟨t, names⟩ := S
    simp only at hh hlen hst
    have hsz : ∀ x ∈ l.map TDef.av, x.cells.length = szOf (some 7) := by
      intro x hx
      obtain ⟨d, _, rfl⟩ := List.mem_map.1 hx
      rfl
    rw [ha.iaddr (get_map hlt) hsz, getP_some]
    refine ⟨l[i].av, rfl, ?_⟩
    show boxP (.agg [I 0, .str [], .nils, .nils, .nils, .nils, I 0]) H2 _
    rw [boxP_agg _ _ _ (by simp [AV.isCell])]
    rw [cells7 (v := l[i].av) rfl ⟨_, rfl⟩ (TDef.cells_all hgood), getH_some]
    refine ⟨by kernel_rfl, ?_⟩
    have h34 := hh.grow (GrowH.app H2 [.cells l[i].av.cells])
    have hx : (H2 ++ [Blk.cells l[i].av.cells])[H2.length]? = some (.cells l[i].av.cells) := by simp
    generalize hH3 : H2 ++ [Blk.cells l[i].av.cells] = H3 at *
    obtain ⟨ov, hc, ho, he⟩ := h34.c
    obtain ⟨val, hlook, hval⟩ := lookup_any h34.m l[i].name h34.n
    refine ⟨_, rfl, _, rfl, .map 0, load_cells hc rfl, _, rfl, .str l[i].name, load_cells hx rfl, _, hlook, _, rfl, _, rfl, ?_⟩
    show boxP (.agg [I 0, .str [], .nils, .nils, .nils, .nils, I 0]) H3 _
    rw [boxP_agg _ _ _ (by simp [AV.isCell])]
    have hval7 : val.cells.length = 7 ∧ (∃ cs, val = .agg cs) ∧ val.cells.all AV.isCell = true := by
      rcases hval with rfl | ⟨j, p, hj, hp⟩
      · exact ⟨rfl, ⟨_, rfl⟩, rfl⟩
      · have e := he j val p hj hp
        exact ⟨e.l, e.a, e.c⟩
    rw [cells7 hval7.1 hval7.2.1 hval7.2.2, getH_some]
    refine ⟨trOk_two [] [0, 1, 2, 4, 7, 8, 9, 10, 11, 12] (by kernel_rfl) (by simp) (by simp) (by simp), ?_⟩
    have h45 := h34.grow (GrowH.app H3 [.cells val.cells])
    have hx2 : (H3 ++ [Blk.cells val.cells])[H2.length]? = some (.cells l[i].av.cells) := getElem?_grow hx _
    generalize hH4 : H3 ++ [Blk.cells val.cells] = H4 at *
    rw [notB, getP_some, splitB_iff]
    refine ⟨fun hno => ?_, fun hyes => ?_⟩
    · have hno : (t.look l[i].name).isSome = false := by simpa using hno
      have hnone : t.look l[i].name = none := by simpa using hno
      obtain ⟨ov2, hc2, ho2, he2⟩ := h45.c
      refine ⟨by kernel_rfl, _, rfl, _, rfl, .map 0, load_cells hc2 rfl, _, rfl, .str l[i].name, load_cells hx2 rfl, l[i].av, ?_, ?_⟩
      · show loadA (some 7) (.ptr H2.length 0) H4 = _
        exact load_cells0 (cs := l[i].av.cells) hx2 rfl
      obtain ⟨w, H54, own9, hr⟩ := r109 hgood H4
      refine ⟨w, H54, hr, ?_⟩
      have h54 := h45.grow own9.c.g
      show getH (mapupdA .str (.map 0) (.str l[i].name) w H54) _
      rw [mapupd_any h54.m hnone, getH_some]
      refine ⟨trOk_two [7] [0, 1, 2, 4, 7, 8] (by kernel_rfl) ?_ ?_ (by simp), ?_⟩
      · simp; exact own9.c.g.1
      · intro k hk tr htr b hb
        simp at hk; subst hk
        simp at htr; subst htr; exact own9.c.g.2 b hb
      have h55 := h54.put (n := l[i].name) (d := l[i]) (v := w) fun ov hov => by
        obtain ⟨ov', q1, q2, q3⟩ := h45.c
        have : ov' = ov := by
          have := own9.c.g.at q1
          rw [hov] at this; simp at this; exact this.symm
        subst this
        refine ⟨own9.c.l, own9.c.a, own9.c.c, H4.length, H54.length, by have := h45.two; omega, Nat.le_refl _, own9.c.f.stab, fun b n hb hcon => ?_⟩
        rcases q2 with ⟨q, _⟩ | ⟨c, e, hcb, _⟩
        · rw [q] at hb; cases hb
        · have e2 : c = b := by rw [e] at hb; injection hb
          have := (List.getElem?_eq_some_iff.1 hcb).1
          omega
      have hx3 : (H54.set 0 (.map (t.keys ++ [.str l[i].name]) (vs ++ [w])))[H2.length]? = some (.cells l[i].av.cells) := by
        rw [List.getElem?_set_ne (by have := hh.two; omega)]; exact own9.c.g.at hx2
      generalize hH5 : H54.set 0 (.map (t.keys ++ [.str l[i].name]) (vs ++ [w])) = H5 at *
      obtain ⟨ov3, hc3, ho3, he3⟩ := h55.c
      refine ⟨by kernel_rfl, _, rfl, _, rfl, ov3, load_cells hc3 rfl, _, rfl, .str l[i].name, load_cells hx3 rfl, ?_⟩
      obtain ⟨v', H6, q1, q2, q3, q4, q5⟩ := app1 ho3 l[i].name (by simp at hlen; omega)
      show sliceP none 0 1 [AV.str []] [(0, 1, AV.str l[i].name)] H5 _
      rw [q5]
      refine ⟨_, rfl, _, rfl, _, store_cells (cs := [.map 0, ov3]) (q2 1 _ hc3 (ho3.ne hc3 fun cs q => by cases q)) (by simp) q1.cell, ?_⟩
      refine ⟨trOk_two [7] [0, 1, 2, 3, 5, 8, 9, 10, 11] (by kernel_rfl) ?_ ?_ (by simp), ?_⟩
      · simp
        omega
      · intro k hk tr htr b hb
        simp at hk; subst hk
        simp at htr; subst htr
        exact List.getElem?_append_left hb
      rw [add1 (by omega), getP_some]
      refine ⟨n2 - 1, by omega, i + 1, by omega, rfl, vs ++ [w], ?_⟩
      have es : step (t, names) l[i] = (t ++ [(l[i].name, l[i])], names ++ [l[i].name]) := by simp [step, hno]
      rw [hst, es]
      refine h55.order q1 (by omega) (fun ov hov hol b x hx hne => ?_) q4
      have : ov = ov3 := by rw [hc3] at hov; simp at hov; exact hov.symm
      subst this
      exact q2 b x hx hne
    · have hyes : (t.look l[i].name).isSome = true := by simpa using hyes
      rw [add1 (by omega), getP_some]
      refine ⟨n2 - 1, by omega, i + 1, by omega, rfl, vs, ?_⟩
      have es : step (t, names) l[i] = (t, names) := by simp [step, hyes]
      rw [hst, es]
      exact h45
  · have : l.take i = l := by rw [List.take_of_length_le]; simpa using hlt
    rw [this] at hh
    exact hh.pub
end Go.AM.T

/- The statement on the five scalars: the A-machine answers true. -/
namespace Go.AM.T
set_option linter.unusedVariables false
set_option linter.unusedSimpArgs false
set_option maxRecDepth 100000

theorem ret_plain {g : Nat} {c : RF} {s t : Str} (hp : env.prim g = none) (hf : env.fn g = some c) (hi : c.iso = true) (h : callF env 10000 g [.str s] [] = some (.str t, [])) (H : Heap) : Ret env g [.str s] H (.str t) H := by
  have e : callF env 10000 g [.str s] H = some (.str t, H) := by
    rw [callF] at h ⊢
    simp only [hp, hf, hi, if_true] at h ⊢
    rw [show pubL false 9999 H [.str s] = some [.str s] from rfl, Option.bind_some]
    rw [show pubL false 9999 [] [.str s] = some [.str s] from rfl, Option.bind_some] at h
    obtain ⟨p, h1, h2⟩ := Option.bind_eq_some_iff.1 h
    rw [h1, Option.bind_some]
    obtain ⟨v, h3, h4⟩ := Option.map_eq_some_iff.1 h2
    injection h4 with h4
    rw [h3, Option.map_some, h4]
  exact Ret.of e
set_option maxRecDepth 1000000 in
theorem base0 : callF env 10000 121 [.str [91, 73, 110, 116, 33, 93]] [] = some (.str [73, 110, 116], []) := by kernel_rfl
set_option maxRecDepth 1000000 in
theorem base1 : callF env 10000 121 [.str [91, 70, 108, 111, 97, 116, 33, 93]] [] = some (.str [70, 108, 111, 97, 116], []) := by kernel_rfl
set_option maxRecDepth 1000000 in
theorem base2 : callF env 10000 121 [.str [91, 83, 116, 114, 105, 110, 103, 33, 93]] [] = some (.str [83, 116, 114, 105, 110, 103], []) := by kernel_rfl
set_option maxRecDepth 1000000 in
theorem base3 : callF env 10000 121 [.str [91, 66, 111, 111, 108, 101, 97, 110, 33, 93]] [] = some (.str [66, 111, 111, 108, 101, 97, 110], []) := by kernel_rfl
set_option maxRecDepth 1000000 in
theorem base4 : callF env 10000 121 [.str [91, 73, 68, 33, 93]] [] = some (.str [73, 68], []) := by kernel_rfl
set_option maxRecDepth 1000000 in
theorem bang0 : callF env 10000 121 [.str [73, 110, 116, 33]] [] = some (.str [73, 110, 116], []) := by kernel_rfl
set_option maxRecDepth 1000000 in
theorem bang1 : callF env 10000 121 [.str [70, 108, 111, 97, 116, 33]] [] = some (.str [70, 108, 111, 97, 116], []) := by kernel_rfl
set_option maxRecDepth 1000000 in
theorem bang2 : callF env 10000 121 [.str [83, 116, 114, 105, 110, 103, 33]] [] = some (.str [83, 116, 114, 105, 110, 103], []) := by kernel_rfl
set_option maxRecDepth 1000000 in
theorem bang3 : callF env 10000 121 [.str [66, 111, 111, 108, 101, 97, 110, 33]] [] = some (.str [66, 111, 111, 108, 101, 97, 110], []) := by kernel_rfl
set_option maxRecDepth 1000000 in
theorem bang4 : callF env 10000 121 [.str [73, 68, 33]] [] = some (.str [73, 68], []) := by kernel_rfl
theorem catS {a b : Str} (h : a.length + b.length < 9223372036854775808) : binop .add (.str a) (.str b) = some (.str (a ++ b)) := by simp [binop, h]
structure Five (n : Str) : Prop where
  mem : n ∈ fiveL
  len : n.length ≤ 10
  name : n ≠ [95, 95, 116, 121, 112, 101, 110, 97, 109, 101]
  b1 : ∀ H, Ret env 121 [.str ([91] ++ n ++ [33, 93])] H (.str n) H
  b2 : ∀ H, Ret env 121 [.str (n ++ [33])] H (.str n) H
theorem five_at : ∀ k : Nat, k < 5 → ∃ n, indexA 5 none (.agg [.str [73, 110, 116], .str [70, 108, 111, 97, 116], .str [83, 116, 114, 105, 110, 103], .str [66, 111, 111, 108, 101, 97, 110], .str [73, 68]]) (.int .u8 ↑k) = some (.str n) ∧ Five n
  | 0, _ => ⟨_, rfl, by simp [fiveL], by decide, by decide, ret_plain rfl rfl rfl base0, ret_plain rfl rfl rfl bang0⟩
  | 1, _ => ⟨_, rfl, by simp [fiveL], by decide, by decide, ret_plain rfl rfl rfl base1, ret_plain rfl rfl rfl bang1⟩
  | 2, _ => ⟨_, rfl, by simp [fiveL], by decide, by decide, ret_plain rfl rfl rfl base2, ret_plain rfl rfl rfl bang2⟩
  | 3, _ => ⟨_, rfl, by simp [fiveL], by decide, by decide, ret_plain rfl rfl rfl base3, ret_plain rfl rfl rfl bang3⟩
  | 4, _ => ⟨_, rfl, by simp [fiveL], by decide, by decide, ret_plain rfl rfl rfl base4, ret_plain rfl rfl rfl bang4⟩
  | k + 5, h => by omega
theorem five_look_in {n : Str} (h : n ∈ fiveL) : fiveT.look n = some (primDef n) := by
  simp only [fiveL, List.mem_cons, List.not_mem_nil, or_false] at h
  rcases h with rfl | rfl | rfl | rfl | rfl <;> rfl
theorem look_keep (n : Str) (d : TDef) : ∀ (l : List TDef) (s : Tab × List Str), s.1.look n = some d → (l.foldl step s).1.look n = some d
  | [], s, h => h
  | e :: r, s, h => by
    rw [List.foldl_cons]
    refine look_keep n d r _ ?_
    unfold step
    split
    · exact h
    · simp only [Tab.look, List.find?_append, Option.map_or] at h ⊢
      rw [h]; rfl
theorem newT_five {n : Str} (h : n ∈ fiveL) (l : List TDef) : (newT l).1.look n = some (primDef n) := look_keep n _ l _ (five_look_in h)
section
variable {t : Tab} (ht : t.ok) (o : Option (List Str)) {n : Str} (hn : Five n) (hl : t.look n = some (primDef n))
include hl in
theorem get_prim : t.get n = primDef n := by rw [Tab.get, hl]; rfl
include hl in
theorem kind_prim : t.kind n = 1 := by rw [Tab.kind, get_prim hl]; rfl
include hl in
theorem is_prim (l : List Int) : t.is n l = l.contains 1 := by rw [Tab.is, kind_prim hl]; rfl
include ht hn hl
theorem r13 (H : Heap) : Ret env 13 [TT t o, .str n] H (.tup [zeroDef.av, .bool false]) H := by
  refine Ret.isoX (f := c13) rfl rfl rfl (PubL.plain (by simp [AV.noIdsL, AV.noIds, TT_noIds ht])) (Eq.mpr (x13 _ _ _ _ _) ?_)
  refine ⟨rfl, _, TT_nil t o, _, TT_f0 t o, _, TT_l0 t o _, _, lookup_t t n _, _, rfl, _, rfl, ?_⟩
  rw [get_prim hl, hl]
  refine ⟨rfl, _, rfl, _, rfl, splitB_bool (fun e => by cases e) fun _ => ?_⟩
  refine ⟨_, _, r20 _, _, _, r21 (.data _) (by simp [fiveL]) n (PubL.plain (by simp [AV.noIdsL, AV.noIds, strs_noIds])), ?_⟩
  rw [show fiveL.contains n = true by simpa using hn.mem]
  refine splitB_bool (fun _ => ?_) fun e => by cases e
  exact ⟨_, rfl, _, rfl, _, rfl, Pub.tup (.cons (Pub.agg (PubLF.scalars (vs := [I 0, .str [], .nils, .nils, .nils, .nils, I 0]) (by simp [AV.scalar]))) (.cons (.scalar rfl) .nil))⟩
theorem r115 (H : Heap) : Ret env 115 [TT t o, .str n, .str [97]] H (.tup [.agg [.str [], .nils, .str [], I 0], .bool false]) H := by
  refine Ret.isoX (f := c115) rfl rfl rfl (PubL.plain (by simp [AV.noIdsL, AV.noIds, TT_noIds ht])) (Eq.mpr (x115 _ _ _ _ _ _) ?_)
  refine ⟨rfl, rfl, _, rfl, _, eqlS _ _, splitB_bool (fun e => by simp at e) fun _ => ?_⟩
  refine ⟨[I 2, I 3], rfl, ?_⟩
  have k := k19 ht o n (l := [2, 3]) (m := 2) rfl (by simp) ([.cells [.str [97]], .cells [.str [], .nils, .str [], I 0]] : Heap)
  refine Eq.mpr (k _) ?_
  rw [is_prim hl]
  refine ⟨_, rfl, splitB_bool (fun _ => ?_) fun e => by cases e⟩
  exact ⟨_, rfl, _, rfl, _, rfl, Pub.tup (.cons (Pub.agg (PubLF.scalars (vs := [.str [], .nils, .str [], I 0]) (by simp [AV.scalar]))) (.cons (.scalar rfl) .nil))⟩
theorem r116 (H : Heap) : Ret env 116 [TT t o, .str n] H (.bool true) H := by
  refine Ret.isoX (f := c116) rfl rfl rfl (PubL.plain (by simp [AV.noIdsL, AV.noIds, TT_noIds ht])) (Eq.mpr (x116 _ _ _ _ _) ?_)
  refine ⟨[I 1, I 5], rfl, Eq.mpr (k19 ht o n (l := [1, 5]) (m := 2) rfl (by simp) ([] : Heap) _) ?_⟩
  rw [is_prim hl]; exact Pub.scalar rfl
theorem r117 (H : Heap) : Ret env 117 [TT t o, .str ([91] ++ n ++ [33, 93])] H (.bool true) H := by
  refine Ret.isoX (f := c117) rfl rfl rfl (PubL.plain (by simp [AV.noIdsL, AV.noIds, TT_noIds ht])) (Eq.mpr (x117 _ _ _ _ _) ?_)
  refine ⟨_, _, hn.b1 [], [I 1, I 5, I 6], rfl, Eq.mpr (k19 ht o n (l := [1, 5, 6]) (m := 3) rfl (by simp) ([] : Heap) _) ?_⟩
  rw [is_prim hl]; exact Pub.scalar rfl
theorem r118 (H : Heap) : Ret env 118 [TT t o, .str (n ++ [33])] H (.bool true) H := by
  refine Ret.isoX (f := c118) rfl rfl rfl (PubL.plain (by simp [AV.noIdsL, AV.noIds, TT_noIds ht])) (Eq.mpr (x118 _ _ _ _ _) ?_)
  refine ⟨_, _, hn.b2 [], [I 1, I 5, I 2, I 3, I 4], rfl, Eq.mpr (k19 ht o n (l := [1, 5, 2, 3, 4]) (m := 5) rfl (by simp) ([] : Heap) _) ?_⟩
  rw [is_prim hl]; exact Pub.scalar rfl
end
/-- One type, then those that came in, behind it. -/
theorem app_more {a : AV} {xs cs : List AV} (ha : SLike a xs) (hc : ∀ x ∈ xs, x.cells.length = 7) (h7 : cs.length = 7) (hl : xs.length * 128 + 4096 ≤ BIG) {B : Blk} (K : AV → Heap → Prop)
    (hK : ∀ b H', H'[b]? = some (.arr 7 0 0 (cs ++ xs.flatMap AV.cells)) → H'[0]? = some B → K (.sl b 0 (1 + xs.length) (some 7)) H') : get2 (appA (some 7) 0 128 (.sl 1 0 1 (some 7)) a [B, .arr 7 0 0 cs]) K := by
  have he : elemsOf 7 [B, .arr 7 0 0 cs] a = some (xs.flatMap AV.cells, xs.length) := by
    rcases ha with ⟨rfl, rfl⟩ | rfl
    · rfl
    · have : xs.all (fun x => x.cells.length == 7) = true := by simpa using hc
      simp [elemsOf, this]
  simp only [BIG] at hl
  by_cases h0 : xs.length = 0
  · have hz : xs = [] := List.eq_nil_of_length_eq_zero h0
    subst hz
    have e : appA (some 7) 0 128 (.sl 1 0 1 (some 7)) a [B, .arr 7 0 0 cs] = some (.sl 1 0 1 (some 7), [B, .arr 7 0 0 cs]) := by
      simp [appA, szOf, he, appendA]
    rw [e, get2_some]
    exact hK 1 _ (by simp) rfl
  · have h1 : (1 + xs.length) * 128 ≤ 140737488355328 := by omega
    have h2 : 1 + xs.length < 9223372036854775808 := by omega
    have e : appA (some 7) 0 128 (.sl 1 0 1 (some 7)) a [B, .arr 7 0 0 cs] = some (.sl 2 0 (1 + xs.length) (some 7), [B, .dead] ++ [Blk.arr 7 0 0 (cs ++ xs.flatMap AV.cells)]) := by
      have h3 : List.take 7 cs = cs := by rw [← h7, List.take_length]
      simp [appA, szOf, he, appendA, h0, h1, h2, h7, h3]
    rw [e, get2_some]
    exact hK 2 _ rfl rfl
abbrev fieldA1 : AV := .agg [.str [97], .nils, .str [73, 110, 116], I 0]
abbrev firstD (k : Int) (n : Str) : TDef := ⟨k, n, none, .data [fieldA1], none, .nils, 0⟩
theorem firstD_good (k : Int) {n : Str} (h : Short n) : (firstD k n).good where
  f := ⟨[⟨[97], .nils, [73, 110, 116], 0⟩], .data _, by intro f hf; have : f = ⟨[97], .nils, [73, 110, 116], 0⟩ := by simpa using hf
                                                        subst this; exact ⟨[], .nils, by simp, by simp⟩, by simp [BIG]⟩
  i := ⟨[], .nils, by simp, by simp⟩
  impl := by simp
  mem := by simp
  name := h
theorem pub_first {H : Heap} {b : Nat} {k : Int} {n : Str} {l : List TDef} (hg : ∀ d ∈ l, d.good) (hb : H[b]? = some (.arr 7 0 0 ([I k, .str n, .nils, .sl 0 0 1 (some 4), .nils, .nils, I 0] ++ (l.map TDef.av).flatMap AV.cells)))
    (h0 : H[0]? = some (.arr 4 0 0 [.str [97], .nils, .str [73, 110, 116], I 0])) : PubL H [.sl b 0 (1 + l.length) (some 7)] [.data ((firstD k n :: l).map TDef.av)] := by
  have hlen : ∀ x ∈ l.map TDef.av, x.cells.length = 7 := by
    intro x hx
    obtain ⟨d, _, rfl⟩ := List.mem_map.1 hx
    rfl
  have hfl := flat_len hlen
  rw [List.length_map] at hfl
  have hni : AV.noIdsL (l.map TDef.av) = true := by
    refine noIdsL_of fun v hv => ?_
    obtain ⟨d, hd, rfl⟩ := List.mem_map.1 hv
    exact TDef.noIds (hg d hd).ok
  have hall : ([I k, .str n, .nils, .sl 0 0 1 (some 4), .nils, .nils, I 0] ++ (l.map TDef.av).flatMap AV.cells).length = (1 + l.length) * 7 := by
    simp only [List.length_append, hfl, List.length_cons, List.length_nil]; omega
  refine PubLF.cons ?_ .nil
  refine Pub.sl (cs' := [I k, .str n, .nils, .data [fieldA1], .nils, .nils, I 0] ++ (l.map TDef.av).flatMap AV.cells) hb rfl (by omega) ?_ ?_
  · rw [List.drop_zero]
    rw [← hall, List.take_length]
    refine PubLF.app ?_ (PubLF.plain (noIds_flat _ hni))
    refine .cons (.scalar rfl) (.cons (.scalar rfl) (.cons (.scalar rfl) (.cons ?_ (.cons (.scalar rfl) (.cons (.scalar rfl) (.cons (.scalar rfl) .nil))))))
    exact Pub.sl (cs' := [.str [97], .nils, .str [73, 110, 116], I 0]) (xs := [fieldA1]) h0 rfl (by simp [szOf]) (PubLF.scalars (by simp [AV.scalar])) rfl
  · have := chunk_cells (sh := some 7) (xs := (firstD k n :: l).map TDef.av) (by
      intro x hx
      obtain ⟨d, _, rfl⟩ := List.mem_map.1 hx
      exact ⟨rfl, rfl⟩)
    rw [List.length_map, List.length_cons, Nat.add_comm] at this
    exact this
theorem box_store {H : Heap} {n : Nat} {cs vs : List AV} (h : cs.length = n) (h2 : vs.length = n) (hv : vs.all AV.isCell = true) : storeA n (.ptr H.length 0) (.agg vs) (H ++ [.cells cs]) = some (H ++ [.cells vs]) := by
  rw [store_cells0 (cs := cs) (by simp) h h2 hv, set_last]
theorem r114 {a : AV} {l : List TDef} (ha : SLike a (l.map TDef.av)) (hg : ∀ d ∈ l, d.good) (hl : l.length * 128 + 4096 ≤ BIG) {w : Int} (hw0 : 0 ≤ w) (k : Int) (H : Heap) : Ret env 114 [a, .int .u8 w, I k] H (.bool true) H := by
  have hna : AV.noIds a = true := by
    rw [ha.noIds]
    refine noIdsL_of fun v hv => ?_
    obtain ⟨d, hd, rfl⟩ := List.mem_map.1 hv
    exact TDef.noIds (hg d hd).ok
  have hll : l.length ≤ 8796093021000 := by simp only [BIG] at hl; omega
  have hp1 : ∀ H, PubL H [a] [a] := fun H => PubL.plain (by simp [AV.noIdsL, hna])
  refine Ret.isoX (f := c114) rfl rfl rfl (PubL.plain (by simp [AV.noIdsL, AV.noIds, hna])) (Eq.mpr (x114 _ _ _ _ _ _) ?_)
  have done : ∀ {fr H}, Pub fr H (.bool true) (.bool true) := fun {_ _} => Pub.scalar rfl
  have aw : ∀ {fr H}, callP env 3 [] H fun v h => Pub fr h v (.bool true) := fun {_ H} => ⟨_, _, callF_awake H, done⟩
  refine ⟨_, _, callF_awake [], _, notB _, splitB_bool (fun h => by cases h) fun _ => ?_⟩
  obtain ⟨r, ⟨q, rfl⟩, hr⟩ := r4 ha hg (by omega) (hp1 [])
  refine ⟨_, _, hr, _, notB _, splitB_bool (fun _ => aw) fun _ => ?_⟩
  have hrem : binop .rem (.int .u8 w) (.int .u8 5) = some (.int .u8 ↑(w.tmod 5).toNat) := by
    have : 0 ≤ w.tmod 5 := Int.tmod_nonneg _ hw0
    simp [binop, Int.toNat_of_nonneg this]
  have hk5 : (w.tmod 5).toNat < 5 := by
    have := Int.tmod_lt_of_pos w (show (0 : Int) < 5 by decide)
    omega
  obtain ⟨n, hidx, hn⟩ := five_at _ hk5
  have hsn : Short n := by have := hn.len; simp only [Short]; omega
  have hlen : ∀ x ∈ l.map TDef.av, x.cells.length = 7 := by
    intro x hx
    obtain ⟨d, _, rfl⟩ := List.mem_map.1 hx
    rfl
  refine ⟨_, rfl, _, hrem, _, hidx, _, rfl, _, rfl, _, rfl, _, rfl, ?_⟩
  refine app_more (cs := [I k, .str n, .nils, .sl 0 0 1 (some 4), .nils, .nils, I 0]) (B := .arr 4 0 0 [.str [97], .nils, .str [73, 110, 116], I 0]) ha hlen rfl (by simpa using hl) _ fun b H' hb h0 => ?_
  have hpub : PubL H' [.sl b 0 (1 + (l.map TDef.av).length) (some 7)] [.data ((firstD k n :: l).map TDef.av)] := by
    rw [List.length_map]; exact pub_first hg hb h0
  have hg2 : ∀ d ∈ firstD k n :: l, d.good := by
    intro d hd
    rcases List.mem_cons.1 hd with rfl | hd
    · exact firstD_good k hsn
    · exact hg d hd
  refine ⟨_, _, r108 (.data _) hg2 (by simp only [List.length_cons]; omega) hpub rfl, _, rfl, splitB_bool (fun e => by cases e) fun _ => ?_⟩
  have hto := newT_ok (firstD k n :: l) (fiveT, []) fiveT_ok fun d hd => (hg2 d hd).ok
  have ht : (newT (firstD k n :: l)).1.ok := hto.1
  have hlk := newT_five hn.mem (firstD k n :: l)
  have ho : ((ordO (newT (firstD k n :: l)).2).getD []).length ≤ 8796093022000 := by
    have e : ((ordO (newT (firstD k n :: l)).2).getD []) = (newT (firstD k n :: l)).2 := by
      unfold ordO; split
      · rename_i h; rw [h]; rfl
      · rfl
    rw [e]
    have h2 := hto.2
    simp only [List.length_nil, Nat.zero_add, List.length_cons] at h2
    exact Nat.le_trans h2 (by omega)
  generalize (newT (firstD k n :: l)).1 = t at *
  generalize ordO (newT (firstD k n :: l)).2 = o at *
  refine ⟨_, _, r13 ht o hn hlk _, _, rfl, _, rfl, rfl, _, box_store (vs := [I 0, .str [], .nils, .nils, .nils, .nils, I 0]) rfl rfl rfl, ?_⟩
  refine ⟨_, _, r115 ht o hn hlk _, _, rfl, _, rfl, rfl, _, box_store (vs := [.str [], .nils, .str [], I 0]) rfl rfl rfl, ?_⟩
  refine ⟨_, _, r8 ht o n _, _, eqlI _ _ _, ?_⟩
  rw [kind_prim hlk]
  refine splitB_bool (fun _ => ?_) fun e => by cases e
  refine ⟨_, _, r116 ht o hn hlk _, splitB_bool (fun _ => ?_) fun e => by cases e⟩
  refine ⟨_, _, r12 ht o n _, _, notB _, ?_⟩
  rw [show t.comp n = false by rw [Tab.comp, is_prim hlk]; rfl]
  refine splitB_bool (fun _ => ?_) fun e => by cases e
  refine ⟨_, catS (a := [91]) (by have := hn.len; simp only [List.length_cons, List.length_nil]; omega), _, catS (by have := hn.len; simp only [List.length_append, List.length_cons, List.length_nil]; omega), ?_⟩
  refine ⟨_, _, r117 ht o hn hlk _, splitB_bool (fun _ => ?_) fun e => by cases e⟩
  refine ⟨_, catS (by have := hn.len; simp only [List.length_append, List.length_cons, List.length_nil]; omega), ?_⟩
  refine ⟨_, _, r118 ht o hn hlk _, splitB_bool (fun _ => ?_) fun e => by cases e⟩
  refine ⟨_, rfl, splitB_bool (fun _ => ?_) fun e => by cases e⟩
  refine ⟨_, rfl, splitB_bool (fun _ => ?_) fun e => by cases e⟩
  have hm : ((t.get n).mem.getD []).length ≤ 8796093022000 := by rw [get_prim hlk]; simp [primDef]
  refine ⟨_, _, r7 ht o ho n hm _, ?_⟩
  have hposs : t.poss o n = none := by
    have hk1 := kind_prim hlk
    rw [Tab.poss, Tab.gather, hk1]; rfl
  rw [hposs]
  exact ⟨_, rfl, .bool true, rfl, done⟩
end Go.AM.T
