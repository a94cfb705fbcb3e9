/- Contracts: what is copied, with memory of its own. -/
import Derived.Test.YtlpmnnkijdbopaaGreatDoorBb
import Derived.Test.YtlpmnnkijdbopaaGreatDoorBa
set_option linter.unusedSectionVars false
set_option linter.unnecessarySimpa false
set_option linter.deprecated false
set_option linter.unusedVariables false
set_option linter.unusedSimpArgs false
namespace Go.AM.T
set_option linter.unusedVariables false
set_option linter.unusedSimpArgs false
set_option maxRecDepth 100000

theorem trOk_some {ops : List RO} {tr : List Tr} (S : List Nat) (h1 : (drawPairs ops).all (fun p => S.contains p.2) = true) (h2 : ∀ t ∈ tr, t.before.length ≤ t.after.length)
    (h3 : ∀ l ∈ S, ∀ t, tr[l]? = some t → ∀ b, b < t.before.length → t.after[b]? = t.before[b]?) : trOk ops tr = true := by
  simp only [trOk, Bool.and_eq_true, List.all_eq_true, decide_eq_true_eq]
  refine ⟨h2, fun p hp => ?_⟩
  have hs := List.all_eq_true.1 h1 p hp
  unfold pairOk
  split
  · rename_i ti tl e1 e2
    split
    · rfl
    · rename_i b hb
      by_cases hlt : b < tl.before.length
      · simp [h3 _ (by simpa using hs) tl e2 b hlt]
      · simp; left; omega
  · rfl
abbrev BIG : Nat := 140737488355328
/-- A copy's place. -/
def Cloned (sh : Option Nat) (a : AV) (xs : List AV) (H : Heap) (v : AV) (H' : Heap) : Prop :=
  (a = .nils ∧ xs = [] ∧ v = .nils ∧ H' = H) ∨ (a = .data xs ∧ ∃ b X, v = .sl b 0 xs.length sh ∧ H' = H ++ X ∧ H.length ≤ b ∧ H'[b]? = some (.arr (szOf sh) 0 0 (xs.flatMap AV.cells)))
theorem clone_ok {sh : Option Nat} {bytes : Nat} {zero : List AV} {a : AV} {xs : List AV} (ha : SLike a xs) (hc : ∀ x ∈ xs, x.cells.length = szOf sh) (hl : xs.length * bytes ≤ BIG) (hx : xs.length < 9223372036854775808) (H : Heap) {Q : AV → Heap → Prop} (hQ : ∀ v H', Cloned sh a xs H v H' → Q v H') :
    getP (eqA .sl false a AV.nils) fun v1 => splitB v1 (Q AV.nils H) (sliceP sh 0 0 zero [] H fun v2 h3 => get2 (appA sh 0 bytes v2 a h3) fun v4 h5 => Q v4 h5) := by
  rcases ha with ⟨rfl, rfl⟩ | rfl
  · refine ⟨_, rfl, ?_⟩
    show Q .nils H
    exact hQ _ _ (.inl ⟨rfl, rfl, rfl, rfl⟩)
  · refine ⟨_, rfl, ?_⟩
    show sliceP sh 0 0 zero [] H fun v2 h3 => get2 (appA sh 0 bytes v2 (.data xs) h3) fun v4 h5 => Q v4 h5
    refine ⟨[], rfl, ?_⟩
    have he : elemsOf (szOf sh) (H ++ [Blk.arr (szOf sh) 0 0 []]) (.data xs) = some (xs.flatMap AV.cells, xs.length) := by
      have : xs.all (fun x => x.cells.length == szOf sh) = true := by simpa using hc
      simp [elemsOf, this]
    by_cases h0 : xs.length = 0
    · have : xs = [] := List.eq_nil_of_length_eq_zero h0
      subst this
      have e : appA sh 0 bytes (.sl H.length 0 0 sh) (.data []) (H ++ [Blk.arr (szOf sh) 0 0 []]) = some (.sl H.length 0 0 sh, H ++ [Blk.arr (szOf sh) 0 0 []]) := by
        simp [appA, he, appendA]
      show get2 _ _
      rw [e, get2_some]
      exact hQ _ _ (.inr ⟨rfl, H.length, [Blk.arr (szOf sh) 0 0 []], rfl, rfl, Nat.le_refl _, by simp⟩)
    · have e : appA sh 0 bytes (.sl H.length 0 0 sh) (.data xs) (H ++ [Blk.arr (szOf sh) 0 0 []]) = some (.sl (H.length + 1) 0 xs.length sh, H ++ [.dead] ++ [Blk.arr (szOf sh) 0 0 (xs.flatMap AV.cells)]) := by
        simp only [BIG] at hl
        simp [appA, he, appendA, h0, hl, hx]
      show get2 _ _
      rw [e, get2_some]
      exact hQ _ _ (.inr ⟨rfl, H.length + 1, [.dead, Blk.arr (szOf sh) 0 0 (xs.flatMap AV.cells)], rfl, by simp, by omega, by simp⟩)
theorem r43 {a : AV} {l : List Str} (ha : SLike a (strs l)) (hl : l.length ≤ 8796093022000) (H : Heap) : ∃ v H', Cloned none a (strs l) H v H' ∧ Ret env 43 [a] H v H' :=
  Ret.openQ (f := c43) rfl rfl rfl (Eq.mpr (x43 _ _ _ _) (clone_ok ha (strs_cells l) (by simp [BIG]; omega) (by simp; omega) H fun _ _ h => h))
theorem r45 {a : AV} {xs : List AV} (ha : SLike a xs) (hc : ∀ x ∈ xs, x.cells.length = szOf (some 4)) (hl : xs.length * 64 ≤ BIG) (H : Heap) : ∃ v H', Cloned (some 4) a xs H v H' ∧ Ret env 45 [a] H v H' :=
  Ret.openQ (f := c45) rfl rfl rfl (Eq.mpr (x45 _ _ _ _) (clone_ok ha hc hl (by simp only [BIG] at hl; omega) H fun _ _ h => h))
theorem r66 {a : AV} {xs : List AV} (ha : SLike a xs) (hc : ∀ x ∈ xs, x.cells.length = szOf (some 9)) (hl : xs.length * 128 ≤ BIG) (H : Heap) : ∃ v H', Cloned (some 9) a xs H v H' ∧ Ret env 66 [a] H v H' :=
  Ret.openQ (f := c66) rfl rfl rfl (Eq.mpr (x66 _ _ _ _) (clone_ok ha hc hl (by simp only [BIG] at hl; omega) H fun _ _ h => h))
theorem r87 {a : AV} {xs : List AV} (ha : SLike a xs) (hc : ∀ x ∈ xs, x.cells.length = szOf (some 5)) (hl : xs.length * 80 ≤ BIG) (H : Heap) : ∃ v H', Cloned (some 5) a xs H v H' ∧ Ret env 87 [a] H v H' :=
  Ret.openQ (f := c87) rfl rfl rfl (Eq.mpr (x87 _ _ _ _) (clone_ok ha hc hl (by simp only [BIG] at hl; omega) H fun _ _ h => h))
theorem r88 {a : AV} {xs : List AV} (ha : SLike a xs) (hc : ∀ x ∈ xs, x.cells.length = szOf (some 7)) (hl : xs.length * 104 ≤ BIG) (H : Heap) : ∃ v H', Cloned (some 7) a xs H v H' ∧ Ret env 88 [a] H v H' :=
  Ret.openQ (f := c88) rfl rfl rfl (Eq.mpr (x88 _ _ _ _) (clone_ok ha hc hl (by simp only [BIG] at hl; omega) H fun _ _ h => h))

/-! ### Values -/
abbrev argOf (y : Str × AV × Int) : AV := .agg (.str y.1 :: (y.2.1.cells ++ [I y.2.2]))
inductive IsVal : AV → Prop where
  | mk {k p : Int} {s : Str} {it fi : AV} {xs : List AV} {ys : List (Str × AV × Int)} : SLike it xs → SLike fi (ys.map argOf) → (∀ x ∈ xs, IsVal x) → (∀ y ∈ ys, IsVal y.2.1) →
      xs.length * 80 ≤ BIG → ys.length * 104 ≤ BIG → IsVal (.agg [I k, .str s, it, fi, I p])
theorem IsVal.cells {v : AV} (h : IsVal v) : v.cells.length = 5 ∧ mkv (some 5) v.cells = some v := by
  cases h; exact ⟨rfl, rfl⟩
theorem noIdsL_of {vs : List AV} (h : ∀ v ∈ vs, AV.noIds v = true) : AV.noIdsL vs = true := by
  induction vs with
  | nil => rfl
  | cons v r ih => simp [AV.noIdsL, h v (by simp), ih fun x hx => h x (by simp [hx])]
theorem of_noIdsL {vs : List AV} (h : AV.noIdsL vs = true) : ∀ v ∈ vs, AV.noIds v = true := by
  induction vs with
  | nil => intro v hv; cases hv
  | cons v r ih =>
    simp only [AV.noIdsL, Bool.and_eq_true] at h
    intro x hx
    rcases List.mem_cons.1 hx with rfl | hx
    · exact h.1
    · exact ih h.2 x hx
theorem noIds_cells {v : AV} (h : AV.noIds v = true) : ∀ c ∈ v.cells, AV.noIds c = true := by
  cases v <;> simp_all [AV.cells, AV.noIds]
  exact of_noIdsL h
theorem IsVal.noIds {v : AV} (h : IsVal v) : AV.noIds v = true := by
  induction h with
  | mk hi hf hx hy _ _ ihx ihy =>
    have h1 := noIdsL_of ihx
    have h2 : AV.noIdsL (List.map argOf _) = true := noIdsL_of (by
      intro v hv
      obtain ⟨y, hy', rfl⟩ := List.mem_map.1 hv
      simp only [argOf, AV.noIds]
      refine noIdsL_of fun c hc => ?_
      simp only [List.mem_cons, List.mem_append, List.mem_singleton] at hc
      rcases hc with rfl | hc | rfl | hc
      · rfl
      · exact noIds_cells (ihy y hy') c hc
      · rfl
      · cases hc)
    simp [AV.noIds, AV.noIdsL, hi.noIds, hf.noIds, h1, h2]
theorem chunk_cells {sh : Option Nat} : ∀ {xs : List AV}, (∀ x ∈ xs, x.cells.length = szOf sh ∧ mkv sh x.cells = some x) → chunk sh xs.length (xs.flatMap AV.cells) = some xs
  | [], _ => rfl
  | x :: r, h => by
    have ⟨h1, h2⟩ := h x (by simp)
    have ih := chunk_cells (sh := sh) (xs := r) fun y hy => h y (by simp [hy])
    have e : mkv sh (x.cells ++ r.flatMap AV.cells) = some x := by
      rw [← h2]
      cases sh with
      | none => 
        cases hx : x.cells with
        | nil => rw [hx] at h1; simp [szOf] at h1
        | cons c t => simp [mkv]
      | some n =>
        simp only [szOf, Option.getD_some] at h1
        subst h1
        simp [mkv]
    simp [chunk, e, ← h1, ih]
/-- A copy, made plain, is what was copied. -/
theorem Cloned.pub {sh : Option Nat} {a : AV} {xs : List AV} {H H' H2 : Heap} {v : AV} (h : Cloned sh a xs H v H') (hc : ∀ x ∈ xs, x.cells.length = szOf sh ∧ mkv sh x.cells = some x) (hn : AV.noIdsL xs = true) (h2 : ∀ b, H.length ≤ b → ∀ x, H'[b]? = some x → H2[b]? = some x) : Pub false H2 v a := by
  rcases h with ⟨rfl, rfl, rfl, rfl⟩ | ⟨rfl, b, X, rfl, rfl, hb, hx⟩
  · exact Pub.scalar rfl
  · have hlen : (xs.flatMap AV.cells).length = xs.length * szOf sh := by
      clear hx h2 hn
      induction xs with
      | nil => simp
      | cons x r ih => simp [ih fun y hy => hc y (by simp [hy]), (hc x (by simp)).1, Nat.succ_mul]; omega
    refine Pub.sl (cs' := xs.flatMap AV.cells) (h2 b hb _ hx) rfl (by omega) ?_ (chunk_cells hc)
    rw [List.drop_zero, ← hlen, List.take_length]
    exact PubLF.plain (noIdsL_of fun c hc' => by
      obtain ⟨x, hx, hc'⟩ := List.mem_flatMap.1 hc'
      exact noIds_cells (of_noIdsL hn x hx) c hc')
end Go.AM.T

/- Contracts: values, inputs, types, copied. -/
namespace Go.AM.T
set_option linter.unusedVariables false
set_option linter.unusedSimpArgs false
set_option maxRecDepth 100000

theorem _root_.Go.AM.SLike.cell {a : AV} {xs : List AV} (h : SLike a xs) : a.isCell = true := by
  rcases h with ⟨rfl, rfl⟩ | rfl <;> rfl
theorem Cloned.cell {sh a xs H v H'} (h : Cloned sh a xs H v H') : v.isCell = true := by
  rcases h with ⟨rfl, rfl, rfl, rfl⟩ | ⟨rfl, b, X, rfl, rfl, hb, hx⟩ <;> rfl
theorem Cloned.grow {sh a xs H v H'} (h : Cloned sh a xs H v H') : ∃ X, H' = H ++ X := by
  rcases h with ⟨rfl, rfl, rfl, rfl⟩ | ⟨rfl, b, X, rfl, rfl, hb, hx⟩
  · exact ⟨[], by simp⟩
  · exact ⟨X, rfl⟩
theorem Cloned.len {sh a xs H v H'} (h : Cloned sh a xs H v H') (H2 : Heap) : lenA H2 .sl v = some (.int .i64 ↑xs.length) := by
  rcases h with ⟨rfl, rfl, rfl, rfl⟩ | ⟨rfl, b, X, rfl, rfl, hb, hx⟩ <;> rfl
theorem cell1 {v : AV} (h : v.isCell = true) : v.cells = [v] := by cases v <;> simp_all [AV.cells, AV.isCell]
theorem load_cells {H : Heap} {b off : Nat} {cs : List AV} {v : AV} (hb : H[b]? = some (.cells cs)) (h : cs[off]? = some v) : loadA none (.ptr b off) H = some v := by
  simp [loadA, hb, mkv, List.head?_drop, h]
theorem load_cells0 {H : Heap} {b n : Nat} {cs : List AV} (hb : H[b]? = some (.cells cs)) (h : cs.length = n) : loadA (some n) (.ptr b 0) H = some (.agg cs) := by
  subst h; simp [loadA, hb, mkv]
theorem store_cells {H : Heap} {b off : Nat} {cs : List AV} {v : AV} (hb : H[b]? = some (.cells cs)) (ho : off < cs.length) (hv : v.isCell = true) : storeA 1 (.ptr b off) v H = some (H.set b (.cells (cs.set off v))) := by
  simp [storeA, cell1 hv, hv, hb, ← wr1 ho, show off + 1 ≤ cs.length by omega]
theorem store_cells0 {H : Heap} {b n : Nat} {cs vs : List AV} (hb : H[b]? = some (.cells cs)) (h : cs.length = n) (h2 : vs.length = n) (hv : vs.all AV.isCell = true) : storeA n (.ptr b 0) (.agg vs) H = some (H.set b (.cells vs)) := by
  have : wr cs 0 vs = vs := by simp [wr]; omega
  simp [storeA, AV.cells, h2, hb, h, this]
  simpa using hv
theorem faddr_ptr (k b o : Nat) : faddrA k (.ptr b o) = some (.ptr b (o + k)) := rfl
theorem nil_ptr (b o : Nat) : nilA (.ptr b o) = some (.ptr b o) := rfl
/-- The i-th element of a copy: where it stands, what is read there, and that what is put back turns nothing. -/
theorem flat_at {n : Nat} : ∀ {xs : List AV}, (∀ x ∈ xs, x.cells.length = n) → ∀ {i : Nat} {x : AV}, xs[i]? = some x → ∃ A B, xs.flatMap AV.cells = A ++ x.cells ++ B ∧ A.length = i * n
  | [], _, i, x, h => by simp at h
  | y :: r, hc, 0, x, h => by
    simp at h; subst h
    exact ⟨[], r.flatMap AV.cells, by simp, by simp⟩
  | y :: r, hc, i + 1, x, h => by
    obtain ⟨A, B, h1, h2⟩ := flat_at (fun z hz => hc z (List.mem_cons_of_mem _ hz)) (i := i) (x := x) (by simpa using h)
    refine ⟨y.cells ++ A, B, by simp [h1], ?_⟩
    rw [List.length_append, h2, hc y (by simp), Nat.succ_mul]; omega
theorem Cloned.at {n : Nat} {a : AV} {xs : List AV} {H H' : Heap} {v : AV} (h : Cloned (some n) a xs H v H') (hc : ∀ x ∈ xs, x.cells.length = n) {i : Nat} {x : AV} (hx : xs[i]? = some x) :
    ∃ b A B, iaddrA (some n) v (.int .i64 ↑i) = some (.ptr b (i * n)) ∧ H.length ≤ b ∧ H'[b]? = some (.arr n 0 0 (A ++ x.cells ++ B)) ∧ A.length = i * n := by
  have hi : i < xs.length := (List.getElem?_eq_some_iff.1 hx).1
  rcases h with ⟨rfl, rfl, rfl, rfl⟩ | ⟨rfl, b, X, rfl, rfl, hb, hb2⟩
  · simp at hi
  · obtain ⟨A, B, h1, h2⟩ := flat_at hc hx
    refine ⟨b, A, B, ?_, hb, ?_, h2⟩
    · simp [iaddrA, evNat, hi, szOf]
    · rw [hb2, ← h1]; rfl
theorem wr_same {A M B : List AV} : wr (A ++ M ++ B) A.length M = A ++ M ++ B := by
  have e : (A ++ M ++ B).drop (A.length + M.length) = B := by
    rw [List.drop_append_of_le_length (by simp), show A.length + M.length = (A ++ M).length by simp, List.drop_length]; simp
  have e2 : (A ++ M ++ B).take A.length = A := by simp
  simp only [wr, e, e2]
/-- A part of an element, read and put back. -/
theorem part_load {H : Heap} {b m : Nat} {n fz tag : Nat} {A M B : List AV} {v : AV} (hb : H[b]? = some (.arr n tag fz (A ++ M ++ B))) (hv : mkv (some m) M = some v) (hm : M.length = m) : loadA (some m) (.ptr b A.length) H = some v := by
  have e2 : (A ++ M ++ B).drop A.length = M ++ B := by simp
  subst hm
  simp only [loadA, hb, e2]
  rw [← hv]; simp [mkv]
theorem part_load1 {H : Heap} {b : Nat} {n fz tag : Nat} {A B : List AV} {v : AV} (hb : H[b]? = some (.arr n tag fz (A ++ [v] ++ B))) : loadA none (.ptr b A.length) H = some v := by
  have e2 : (A ++ [v] ++ B).drop A.length = [v] ++ B := by simp
  simp only [loadA, hb, e2]; rfl
theorem part_store {H : Heap} {b m : Nat} {n tag : Nat} {A M B : List AV} {v : AV} (hb : H[b]? = some (.arr n tag 0 (A ++ M ++ B))) (hv : v.cells = M) (hm : M.length = m) (hcell : M.all AV.isCell = true) : storeA m (.ptr b A.length) v H = some H := by
  have h1 : A.length + m ≤ (A ++ M ++ B).length := by simp; omega
  subst hm
  unfold storeA
  rw [if_pos ⟨by rw [hv], by rw [hv]; exact hcell⟩]
  simp only [hb]
  rw [if_pos ⟨Nat.zero_le _, h1⟩, hv, wr_same, set_same hb]
theorem IsVal.allCell {v : AV} (h : IsVal v) : v.cells.all AV.isCell = true := by
  cases h with
  | mk hi hf _ _ _ _ => simp [AV.cells, hi.cell, hf.cell]; simp [AV.isCell]
theorem argOf_cells (y : Str × AV × Int) (h : IsVal y.2.1) : (argOf y).cells.length = 7 := by
  show (AV.str y.1 :: (y.2.1.cells ++ [I y.2.2])).length = 7
  rw [List.length_cons, List.length_append, h.cells.1]; rfl
theorem argOf_mk (y : Str × AV × Int) (h : IsVal y.2.1) : mkv (some 7) (argOf y).cells = some (argOf y) := by
  have := argOf_cells y h
  show (if 7 ≤ (argOf y).cells.length then some (AV.agg ((argOf y).cells.take 7)) else none) = some (argOf y)
  rw [if_pos (by omega), List.take_of_length_le (by omega)]; rfl
theorem r67 {v : AV} (h : IsVal v) : ∀ H, Ret env 67 [v] H v H := by
  induction h with
  | @mk k p s it fi xs ys hi hf hx hy bx by_ ihx ihy =>
  intro H
  have hv : IsVal (.agg [I k, .str s, it, fi, I p]) := .mk hi hf hx hy bx by_
  have hcx : ∀ x ∈ xs, x.cells.length = 5 := fun x h => (hx x h).cells.1
  have hcy : ∀ y ∈ ys.map argOf, y.cells.length = 7 := by
    intro y h
    obtain ⟨z, hz, rfl⟩ := List.mem_map.1 h
    exact argOf_cells z (hy z hz)
  refine Ret.isoX (f := c67) rfl rfl rfl (PubL.plain (by simp [AV.noIdsL, hv.noIds])) (Eq.mpr (x67 _ _ _ _) ?_)
  have hn : AV.noIdsL [.agg [I k, .str s, it, fi, I p]] = true := by simp [AV.noIdsL, hv.noIds]
  rw [hn, boxP_agg _ _ _ (by simpa [AV.cells] using hv.allCell), boxP_agg _ _ _ (by simp [AV.isCell])]
  refine ⟨by kernel_rfl, ?_⟩
  refine ⟨_, rfl, it, load_cells rfl rfl, ?_⟩
  obtain ⟨v7, h8, hc7, hr7⟩ := r87 hi hcx bx ([Blk.cells [I k, .str s, it, fi, I p]] ++ [Blk.cells [I 0, .str [], .nils, .nils, I 0]])
  refine ⟨v7, h8, hr7, ?_⟩
  obtain ⟨X, rfl⟩ := hc7.grow
  refine ⟨_, rfl, fi, load_cells rfl rfl, ?_⟩
  obtain ⟨v11, h12, hc11, hr11⟩ := r88 hf hcy (by simpa using by_) ([Blk.cells [I k, .str s, it, fi, I p]] ++ [Blk.cells [I 0, .str [], .nils, .nils, I 0]] ++ X)
  refine ⟨v11, h12, hr11, ?_⟩
  obtain ⟨Y, rfl⟩ := hc11.grow
  refine ⟨_, rfl, _, store_cells (cs := [I k, .str s, it, fi, I p]) rfl (by simp) hc7.cell, ?_⟩
  refine ⟨_, rfl, _, store_cells (cs := [I k, .str s, v7, fi, I p]) rfl (by simp) hc11.cell, ?_⟩
  refine ⟨trOk_some [2, 5] (by kernel_rfl) ?_ ?_, ?_⟩
  · simp
  · intro l hl t ht b hb
    simp at hl
    rcases hl with rfl | rfl <;> simp at ht <;> subst ht
    · exact List.getElem?_append_left hb
    · exact List.getElem?_append_left hb
  have e16 : (([Blk.cells [I k, .str s, it, fi, I p]] ++ [Blk.cells [I 0, .str [], .nils, .nils, I 0]] ++ X ++ Y).set 0 (.cells ([I k, .str s, it, fi, I p].set 2 v7))).set 0 (.cells (([I k, .str s, v7, fi, I p]).set 3 v11)) = Blk.cells [I k, .str s, v7, v11, I p] :: Blk.cells [I 0, .str [], .nils, .nils, I 0] :: (X ++ Y) := by simp
  rw [show (([Blk.cells [I k, .str s, it, fi, I p]] ++ [Blk.cells [I 0, .str [], .nils, .nils, I 0]] ++ X ++ Y).set ([] : Heap).length (.cells ([I k, .str s, it, fi, I p].set (0 + 2) v7))).set ([] : Heap).length (.cells (([I k, .str s, v7, fi, I p]).set (0 + 3) v11)) = Blk.cells [I k, .str s, v7, v11, I p] :: Blk.cells [I 0, .str [], .nils, .nils, I 0] :: (X ++ Y) from e16]
  clear e16
  generalize hHH : Blk.cells [I k, .str s, v7, v11, I p] :: Blk.cells [I 0, .str [], .nils, .nils, I 0] :: (X ++ Y) = HH
  have g0 : HH[0]? = some (.cells [I k, .str s, v7, v11, I p]) := by rw [← hHH]; rfl
  have g1 : HH[1]? = some (.cells [I 0, .str [], .nils, .nils, I 0]) := by rw [← hHH]; rfl
  have hX : ∀ b, 2 ≤ b → ∀ x, ([Blk.cells [I k, .str s, it, fi, I p]] ++ [Blk.cells [I 0, .str [], .nils, .nils, I 0]] ++ X)[b]? = some x → HH[b]? = some x := by
    intro b hb x h
    rw [← hHH]
    match b, hb, h with
    | b + 2, _, h =>
      have h' : X[b]? = some x := by simpa using h
      simpa using getElem?_grow h' Y
  have hY : ∀ b, 2 ≤ b → ∀ x, ([Blk.cells [I k, .str s, it, fi, I p]] ++ [Blk.cells [I 0, .str [], .nils, .nils, I 0]] ++ X ++ Y)[b]? = some x → HH[b]? = some x := by
    intro b hb x h
    rw [← hHH]
    match b, hb, h with
    | b + 2, _, h => simpa using h
  refine ⟨_, rfl, v7, load_cells g0 rfl, _, hc7.len HH, ?_⟩
  refine ⟨fun n f H' => ∃ i : Nat, i + n = xs.length ∧ f 16 = I ↑i ∧ HH = H', ⟨xs.length, 0, by simp, rfl, rfl⟩, ?_⟩
  rintro n f H' ⟨i, hi', h16, rfl⟩
  rw [h16, lssI, getP_some, splitB_iff]
  refine ⟨fun hlt => ?_, fun hlt => ?_⟩
  · have hlt : i < xs.length := by simpa using hlt
    have hgx := List.getElem?_eq_getElem hlt
    obtain ⟨b, A, B, ea, hb, hbb, hA⟩ := hc7.at hcx hgx
    have hbb' := hX b (by simpa using hb) _ hbb
    have hvx := hx xs[i] (List.getElem_mem hlt)
    refine ⟨by kernel_rfl, _, rfl, v7, load_cells g0 rfl, _, rfl, v7, load_cells g0 rfl, _, ea, ?_⟩
    show getP _ _
    rw [← hA, part_load hbb' hvx.cells.2 hvx.cells.1, getP_some, callP_eq (ihx _ (List.getElem_mem hlt) HH), ea, getP_some, ← hA, part_store hbb' rfl hvx.cells.1 hvx.allCell, getH_some]
    refine ⟨trOk_quiet (by simp), ?_⟩
    have : xs.length < 4611686018427387904 := by simp only [BIG] at bx; omega
    rw [add1 (by omega), getP_some]
    exact ⟨n - 1, by omega, i + 1, by omega, rfl, rfl⟩
  · refine ⟨_, rfl, v11, load_cells g0 rfl, _, hc11.len HH, ?_⟩
    refine ⟨fun n f H' => ∃ i : Nat, i + n = ys.length ∧ f 33 = I ↑i ∧ HH = H', ⟨ys.length, 0, by simp, rfl, rfl⟩, ?_⟩
    rintro n f H' ⟨i, hi', h33, rfl⟩
    rw [h33, lssI, getP_some, splitB_iff]
    refine ⟨fun hlt => ?_, fun hlt => ?_⟩
    · have hlt : i < ys.length := by simpa using hlt
      have hgx := get_map (f := argOf) hlt
      obtain ⟨b, A, B, ea, hb, hbb, hA⟩ := hc11.at hcy hgx
      have hbb' := hY b (Nat.le_trans (by simp) hb) _ hbb
      have hvx := hy ys[i] (List.getElem_mem hlt)
      have hbb2 : HH[b]? = some (.arr 7 0 0 ((A ++ [.str ys[i].1]) ++ ys[i].2.1.cells ++ ([I ys[i].2.2] ++ B))) := by
        rw [hbb', show (argOf ys[i]).cells = AV.str ys[i].1 :: (ys[i].2.1.cells ++ [I ys[i].2.2]) from rfl]; simp
      have hA2 : (A ++ [AV.str ys[i].1]).length = i * 7 + 1 := by simp [hA]
      refine ⟨by kernel_rfl, _, rfl, v11, load_cells g0 rfl, _, rfl, v11, load_cells g0 rfl, _, ea, _, rfl, ?_⟩
      show getP _ _
      rw [← hA2, part_load hbb2 hvx.cells.2 hvx.cells.1, getP_some, callP_eq (ihy _ (List.getElem_mem hlt) HH), ea, getP_some, faddr_ptr, getP_some, ← hA2, part_store hbb2 rfl hvx.cells.1 hvx.allCell, getH_some]
      refine ⟨trOk_quiet (by simp), ?_⟩
      have : ys.length < 4611686018427387904 := by simp only [BIG] at by_; omega
      rw [add1 (by omega), getP_some]
      exact ⟨n - 1, by omega, i + 1, by omega, rfl, rfl⟩
    · refine ⟨_, load_cells0 g0 rfl, _, store_cells0 g1 rfl rfl (by simp [hc7.cell, hc11.cell]; simp [AV.isCell]), ?_⟩
      have hl2 : 1 < HH.length := (List.getElem?_eq_some_iff.1 g1).1
      refine ⟨_, load_cells0 (cs := [I k, .str s, v7, v11, I p]) (by simp [hl2]) rfl, ?_⟩
      have up : ∀ b, 2 ≤ b → ∀ x, HH[b]? = some x → (HH.set 1 (.cells [I k, .str s, v7, v11, I p]))[b]? = some x := by
        intro b hb x h; rw [List.getElem?_set_ne (by omega)]; exact h
      refine Pub.agg (.cons (.scalar rfl) (.cons (.scalar rfl) (.cons ?_ (.cons ?_ (.cons (.scalar rfl) .nil)))))
      · exact hc7.pub (fun x h => (hx x h).cells) (noIdsL_of fun x h => (hx x h).noIds) fun b hb x h => up b (by simpa using hb) x (hX b (by simpa using hb) x h)
      · refine hc11.pub (fun y h => ?_) ?_ fun b hb x h => up b (Nat.le_trans (by simp) hb) x (hY b (Nat.le_trans (by simp) hb) x h)
        · obtain ⟨z, hz, rfl⟩ := List.mem_map.1 h
          exact ⟨argOf_cells z (hy z hz), argOf_mk z (hy z hz)⟩
        · have := hv.noIds
          simp only [AV.noIds, AV.noIdsL, Bool.and_eq_true] at this
          rw [← hf.noIds]; exact this.2.2.2.1
theorem k67 {v : AV} (h : IsVal v) (H : Heap) (K) : callP env 67 [v] H K = K v H := callP_eq (r67 h H) K
end Go.AM.T

/- Contracts: inputs and types, copied. -/
namespace Go.AM.T
set_option linter.unusedVariables false
set_option linter.unusedSimpArgs false
set_option maxRecDepth 100000

structure InD where
  n : Str
  t : Str
  has : Bool
  v : AV
  p : Int
abbrev InD.av (z : InD) : AV := .agg (.str z.n :: .str z.t :: .bool z.has :: (z.v.cells ++ [I z.p]))
def IsIns (a : AV) : Prop := ∃ zs : List InD, SLike a (zs.map InD.av) ∧ (∀ z ∈ zs, IsVal z.v) ∧ zs.length * 128 ≤ BIG
structure FieldD where
  n : Str
  args : AV
  t : Str
  p : Int
abbrev FieldD.av (f : FieldD) : AV := .agg [.str f.n, f.args, .str f.t, I f.p]
def IsFields (a : AV) : Prop := ∃ fs : List FieldD, SLike a (fs.map FieldD.av) ∧ (∀ f ∈ fs, IsIns f.args) ∧ fs.length * 64 ≤ BIG
theorem InD.cells (z : InD) (h : IsVal z.v) : z.av.cells.length = 9 := by
  show (AV.str z.n :: .str z.t :: .bool z.has :: (z.v.cells ++ [I z.p])).length = 9
  simp only [List.length_cons, List.length_append, h.cells.1]; rfl
theorem mk_cells {n : Nat} {cs : List AV} (h : cs.length = n) : mkv (some n) cs = some (.agg cs) := by
  subst h; simp [mkv]
theorem InD.noIds (z : InD) (h : IsVal z.v) : AV.noIds z.av = true := by
  simp only [AV.noIds]
  refine noIdsL_of fun c hc => ?_
  simp only [List.mem_cons, List.mem_append, List.mem_singleton] at hc
  rcases hc with rfl | rfl | rfl | hc | rfl | hc
  · rfl
  · rfl
  · rfl
  · exact noIds_cells h.noIds c hc
  · rfl
  · cases hc
theorem IsIns.noIds {a : AV} (h : IsIns a) : AV.noIds a = true := by
  obtain ⟨zs, h1, h2, h3⟩ := h
  rw [h1.noIds]
  refine noIdsL_of fun v hv => ?_
  obtain ⟨z, hz, rfl⟩ := List.mem_map.1 hv
  exact z.noIds (h2 z hz)
theorem IsIns.cell {a : AV} (h : IsIns a) : a.isCell = true := by obtain ⟨zs, h1, _⟩ := h; exact h1.cell
theorem IsFields.cell {a : AV} (h : IsFields a) : a.isCell = true := by obtain ⟨zs, h1, _⟩ := h; exact h1.cell
theorem FieldD.noIds (f : FieldD) (h : IsIns f.args) : AV.noIds f.av = true := by simp [AV.noIds, AV.noIdsL, h.noIds]
theorem IsFields.noIds {a : AV} (h : IsFields a) : AV.noIds a = true := by
  obtain ⟨zs, h1, h2, h3⟩ := h
  rw [h1.noIds]
  refine noIdsL_of fun v hv => ?_
  obtain ⟨z, hz, rfl⟩ := List.mem_map.1 hv
  exact z.noIds (h2 z hz)
theorem r44 {a : AV} (h : IsIns a) (H : Heap) : Ret env 44 [a] H a H := by
  have hna := h.noIds
  obtain ⟨zs, h1, h2, h3⟩ := h
  have hcz : ∀ z ∈ zs.map InD.av, z.cells.length = 9 := by
    intro y h
    obtain ⟨z, hz, rfl⟩ := List.mem_map.1 h
    exact z.cells (h2 z hz)
  have hn : AV.noIdsL [a] = true := by simp [AV.noIdsL, hna]
  refine Ret.isoX (f := c44) rfl rfl rfl (PubL.plain hn) (Eq.mpr (x44 _ _ _ _) ?_)
  rw [hn]
  obtain ⟨v, H1, hc, hr⟩ := r66 h1 hcz (by simpa using h3) []
  refine ⟨v, H1, hr, _, hc.len _, ?_⟩
  refine ⟨fun n f H' => ∃ i : Nat, i + n = zs.length ∧ f 8 = I ↑i ∧ H1 = H', ⟨zs.length, 0, by simp, rfl, rfl⟩, ?_⟩
  rintro n f H' ⟨i, hi', h8, rfl⟩
  rw [h8, lssI, getP_some, splitB_iff]
  refine ⟨fun hlt => ?_, fun hlt => ?_⟩
  · have hlt : i < zs.length := by simpa using hlt
    have hgx := get_map (f := InD.av) hlt
    obtain ⟨b, A, B, ea, hb, hbb, hA⟩ := hc.at hcz hgx
    have hvx := h2 zs[i] (List.getElem_mem hlt)
    have hbb2 : H1[b]? = some (.arr 9 0 0 ((A ++ [.str zs[i].n, .str zs[i].t, .bool zs[i].has]) ++ zs[i].v.cells ++ ([I zs[i].p] ++ B))) := by
      rw [hbb, show (zs[i].av).cells = AV.str zs[i].n :: .str zs[i].t :: .bool zs[i].has :: (zs[i].v.cells ++ [I zs[i].p]) from rfl]; simp
    have hA2 : (A ++ [AV.str zs[i].n, .str zs[i].t, .bool zs[i].has]).length = i * 9 + 3 := by simp [hA]
    rw [ea, getP_some, faddr_ptr, getP_some, ← hA2, part_load hbb2 hvx.cells.2 hvx.cells.1, getP_some, k67 hvx, getP_some, faddr_ptr, getP_some, ← hA2, part_store hbb2 rfl hvx.cells.1 hvx.allCell, getH_some]
    have : zs.length < 4611686018427387904 := by simp only [BIG] at h3; omega
    rw [add1 (by omega), getP_some]
    exact ⟨n - 1, by omega, i + 1, by omega, rfl, rfl⟩
  · refine hc.pub (fun y h => ?_) (by rw [← h1.noIds]; exact hna) fun b _ x h => h
    obtain ⟨z, hz, rfl⟩ := List.mem_map.1 h
    exact ⟨z.cells (h2 z hz), mk_cells (z.cells (h2 z hz))⟩
theorem k44 {a : AV} (h : IsIns a) (H : Heap) (K) : callP env 44 [a] H K = K a H := callP_eq (r44 h H) K
structure TDef.good (d : TDef) : Prop where
  f : IsFields d.fields
  i : IsIns d.inputs
  impl : (d.impl.getD []).length ≤ 8796093022000
  mem : (d.mem.getD []).length ≤ 8796093022000
  name : Short d.name
theorem TDef.good.ok {d : TDef} (h : d.good) : d.ok := ⟨h.f.noIds, h.i.noIds, by have := h.impl; simp only [ShortL]; omega, by have := h.mem; simp only [ShortL]; omega, h.name⟩
theorem ostr_cell : ∀ o, (ostr o).isCell = true
  | none => rfl
  | some _ => rfl
theorem r22 {d : TDef} (h : d.good) (H : Heap) : Ret env 22 [d.av] H d.av H := by
  have hnd := TDef.noIds h.ok
  have hn : AV.noIdsL [d.av] = true := by simp [AV.noIdsL, hnd]
  obtain ⟨k, nm, im, fi, me, inp, po⟩ := d
  obtain ⟨hf, hin, him, hme, hnm⟩ := h
  simp only at hf hin him hme hnm
  have hfi := hf
  obtain ⟨fs, h1, h2, h3⟩ := hf
  refine Ret.isoX (f := c22) rfl rfl rfl (PubL.plain hn) (Eq.mpr (x22 _ _ _ _) ?_)
  rw [hn]
  show boxP (.agg [I k, .str nm, ostr im, fi, ostr me, inp, I po]) _ _
  rw [boxP_agg _ _ _ (by simp [ostr_cell, h1.cell, hin.cell]; simp [AV.isCell]), boxP_agg _ _ _ (by simp [AV.isCell])]
  refine ⟨by kernel_rfl, ?_⟩
  refine ⟨_, rfl, ostr im, load_cells rfl rfl, ?_⟩
  obtain ⟨v7, h8, hc7, hr7⟩ := r43 (ostr_like im) him ([Blk.cells [I k, .str nm, ostr im, fi, ostr me, inp, I po]] ++ [Blk.cells [I 0, .str [], .nils, .nils, .nils, .nils, I 0]])
  refine ⟨v7, h8, hr7, ?_⟩
  obtain ⟨X, rfl⟩ := hc7.grow
  refine ⟨_, rfl, ostr me, load_cells rfl rfl, ?_⟩
  obtain ⟨v11, h12, hc11, hr11⟩ := r43 (ostr_like me) hme ([Blk.cells [I k, .str nm, ostr im, fi, ostr me, inp, I po]] ++ [Blk.cells [I 0, .str [], .nils, .nils, .nils, .nils, I 0]] ++ X)
  refine ⟨v11, h12, hr11, ?_⟩
  obtain ⟨Y, rfl⟩ := hc11.grow
  refine ⟨_, rfl, _, store_cells (cs := [I k, .str nm, ostr im, fi, ostr me, inp, I po]) rfl (by simp) hc7.cell, ?_⟩
  refine ⟨_, rfl, _, store_cells (cs := [I k, .str nm, v7, fi, ostr me, inp, I po]) rfl (by simp) hc11.cell, ?_⟩
  refine ⟨trOk_some [2, 5] (by kernel_rfl) ?_ ?_, ?_⟩
  · simp
  · intro l hl t ht b hb
    simp at hl
    rcases hl with rfl | rfl <;> simp at ht <;> subst ht
    · exact List.getElem?_append_left hb
    · exact List.getElem?_append_left hb
  have e16 : (([Blk.cells [I k, .str nm, ostr im, fi, ostr me, inp, I po]] ++ [Blk.cells [I 0, .str [], .nils, .nils, .nils, .nils, I 0]] ++ X ++ Y).set 0 (.cells ([I k, .str nm, ostr im, fi, ostr me, inp, I po].set 2 v7))).set 0 (.cells (([I k, .str nm, v7, fi, ostr me, inp, I po]).set 4 v11)) = Blk.cells [I k, .str nm, v7, fi, v11, inp, I po] :: Blk.cells [I 0, .str [], .nils, .nils, .nils, .nils, I 0] :: (X ++ Y) := by simp
  rw [show (([Blk.cells [I k, .str nm, ostr im, fi, ostr me, inp, I po]] ++ [Blk.cells [I 0, .str [], .nils, .nils, .nils, .nils, I 0]] ++ X ++ Y).set ([] : Heap).length (.cells ([I k, .str nm, ostr im, fi, ostr me, inp, I po].set (0 + 2) v7))).set ([] : Heap).length (.cells (([I k, .str nm, v7, fi, ostr me, inp, I po]).set (0 + 4) v11)) = Blk.cells [I k, .str nm, v7, fi, v11, inp, I po] :: Blk.cells [I 0, .str [], .nils, .nils, .nils, .nils, I 0] :: (X ++ Y) from e16]
  clear e16
  refine ⟨_, rfl, inp, load_cells rfl rfl, ?_⟩
  refine ⟨inp, _, r44 hin _, ?_⟩
  refine ⟨_, rfl, _, store_cells (cs := [I k, .str nm, v7, fi, v11, inp, I po]) rfl (by simp) hin.cell, ?_⟩
  rw [show (Blk.cells [I k, .str nm, v7, fi, v11, inp, I po] :: Blk.cells [I 0, .str [], .nils, .nils, .nils, .nils, I 0] :: (X ++ Y)).set ([] : Heap).length (Blk.cells ([I k, .str nm, v7, fi, v11, inp, I po].set (0 + 5) inp)) = Blk.cells [I k, .str nm, v7, fi, v11, inp, I po] :: Blk.cells [I 0, .str [], .nils, .nils, .nils, .nils, I 0] :: (X ++ Y) from rfl]
  refine ⟨_, rfl, fi, load_cells rfl rfl, ?_⟩
  have hcf : ∀ z ∈ fs.map FieldD.av, z.cells.length = 4 := by
    intro y h
    obtain ⟨z, hz, rfl⟩ := List.mem_map.1 h
    rfl
  obtain ⟨v25, h26, hc25, hr25⟩ := r45 h1 hcf (by simpa using h3) (Blk.cells [I k, .str nm, v7, fi, v11, inp, I po] :: Blk.cells [I 0, .str [], .nils, .nils, .nils, .nils, I 0] :: (X ++ Y))
  refine ⟨v25, h26, hr25, ?_⟩
  obtain ⟨Z, rfl⟩ := hc25.grow
  refine ⟨_, rfl, _, store_cells (cs := [I k, .str nm, v7, fi, v11, inp, I po]) rfl (by simp) hc25.cell, ?_⟩
  rw [show (Blk.cells [I k, .str nm, v7, fi, v11, inp, I po] :: Blk.cells [I 0, .str [], .nils, .nils, .nils, .nils, I 0] :: (X ++ Y) ++ Z).set ([] : Heap).length (Blk.cells ([I k, .str nm, v7, fi, v11, inp, I po].set (0 + 3) v25)) = Blk.cells [I k, .str nm, v7, v25, v11, inp, I po] :: Blk.cells [I 0, .str [], .nils, .nils, .nils, .nils, I 0] :: (X ++ Y ++ Z) from rfl]
  generalize hHH : Blk.cells [I k, .str nm, v7, v25, v11, inp, I po] :: Blk.cells [I 0, .str [], .nils, .nils, .nils, .nils, I 0] :: (X ++ Y ++ Z) = HH
  have g0 : HH[0]? = some (.cells [I k, .str nm, v7, v25, v11, inp, I po]) := by rw [← hHH]; rfl
  have g1 : HH[1]? = some (.cells [I 0, .str [], .nils, .nils, .nils, .nils, I 0]) := by rw [← hHH]; rfl
  have hX : ∀ b, 2 ≤ b → ∀ x, ([Blk.cells [I k, .str nm, ostr im, fi, ostr me, inp, I po]] ++ [Blk.cells [I 0, .str [], .nils, .nils, .nils, .nils, I 0]] ++ X)[b]? = some x → HH[b]? = some x := by
    intro b hb x h
    rw [← hHH]
    match b, hb, h with
    | b + 2, _, h =>
      have h' : X[b]? = some x := by simpa using h
      simpa using getElem?_grow h' (Y ++ Z)
  have hY : ∀ b, 2 ≤ b → ∀ x, ([Blk.cells [I k, .str nm, ostr im, fi, ostr me, inp, I po]] ++ [Blk.cells [I 0, .str [], .nils, .nils, .nils, .nils, I 0]] ++ X ++ Y)[b]? = some x → HH[b]? = some x := by
    intro b hb x h
    rw [← hHH]
    match b, hb, h with
    | b + 2, _, h =>
      have h' : (X ++ Y)[b]? = some x := by simpa using h
      simpa using getElem?_grow h' Z
  have hZ : ∀ b, 2 ≤ b → ∀ x, (Blk.cells [I k, .str nm, v7, fi, v11, inp, I po] :: Blk.cells [I 0, .str [], .nils, .nils, .nils, .nils, I 0] :: (X ++ Y) ++ Z)[b]? = some x → HH[b]? = some x := by
    intro b hb x h
    rw [← hHH]
    match b, hb, h with
    | b + 2, _, h => simpa using h
  refine ⟨_, rfl, v25, load_cells g0 rfl, _, hc25.len HH, ?_⟩
  refine ⟨fun n f H' => ∃ i : Nat, i + n = fs.length ∧ f 23 = I ↑i ∧ HH = H', ⟨fs.length, 0, by simp, rfl, rfl⟩, ?_⟩
  rintro n f H' ⟨i, hi', h23, rfl⟩
  rw [h23, lssI, getP_some, splitB_iff]
  refine ⟨fun hlt => ?_, fun hlt => ?_⟩
  · have hlt : i < fs.length := by simpa using hlt
    have hgx := get_map (f := FieldD.av) hlt
    obtain ⟨b, A, B, ea, hb, hbb, hA⟩ := hc25.at hcf hgx
    have hbb' := hZ b (Nat.le_trans (by simp) hb) _ hbb
    have hvx := h2 fs[i] (List.getElem_mem hlt)
    have hbb2 : HH[b]? = some (.arr 4 0 0 ((A ++ [.str fs[i].n]) ++ [fs[i].args] ++ ([.str fs[i].t, I fs[i].p] ++ B))) := by
      rw [hbb', show (fs[i].av).cells = [AV.str fs[i].n, fs[i].args, .str fs[i].t, I fs[i].p] from rfl]; simp
    have hA2 : (A ++ [AV.str fs[i].n]).length = i * 4 + 1 := by simp [hA]
    refine ⟨by kernel_rfl, _, rfl, v25, load_cells g0 rfl, _, rfl, v25, load_cells g0 rfl, _, ea, _, rfl, ?_⟩
    show getP _ _
    rw [← hA2, part_load1 hbb2, getP_some, k44 hvx, ea, getP_some, faddr_ptr, getP_some, ← hA2, part_store (m := 1) hbb2 (cell1 hvx.cell) rfl (by simp [hvx.cell]), getH_some]
    refine ⟨trOk_quiet (by simp), ?_⟩
    have : fs.length < 4611686018427387904 := by simp only [BIG] at h3; omega
    rw [add1 (by omega), getP_some]
    exact ⟨n - 1, by omega, i + 1, by omega, rfl, rfl⟩
  · refine ⟨_, load_cells0 g0 rfl, _, store_cells0 g1 rfl rfl (by simp [hc7.cell, hc11.cell, hc25.cell, hin.cell]; simp [AV.isCell]), ?_⟩
    have hl2 : 1 < HH.length := (List.getElem?_eq_some_iff.1 g1).1
    refine ⟨_, load_cells0 (cs := [I k, .str nm, v7, v25, v11, inp, I po]) (by simp [hl2]) rfl, ?_⟩
    have up : ∀ b, 2 ≤ b → ∀ x, HH[b]? = some x → (HH.set 1 (.cells [I k, .str nm, v7, v25, v11, inp, I po]))[b]? = some x := by
      intro b hb x h; rw [List.getElem?_set_ne (by omega)]; exact h
    have hs : ∀ l : List Str, ∀ x ∈ strs l, x.cells.length = szOf none ∧ mkv none x.cells = some x := by
      intro l x hx
      obtain ⟨s, _, rfl⟩ := List.mem_map.1 hx
      exact ⟨rfl, rfl⟩
    refine Pub.agg (.cons (.scalar rfl) (.cons (.scalar rfl) (.cons ?_ (.cons ?_ (.cons ?_ (.cons (Pub.plain hin.noIds) (.cons (.scalar rfl) .nil)))))))
    · exact hc7.pub (hs _) (strs_noIds _) fun b hb x h => up b (by simpa using hb) x (hX b (by simpa using hb) x h)
    · refine hc25.pub (fun y h => ?_) (by rw [← h1.noIds]; exact hfi.noIds) fun b hb x h => up b (Nat.le_trans (by simp) hb) x (hZ b (Nat.le_trans (by simp) hb) x h)
      obtain ⟨z, hz, rfl⟩ := List.mem_map.1 h
      exact ⟨rfl, rfl⟩
    · exact hc11.pub (hs _) (strs_noIds _) fun b hb x h => up b (Nat.le_trans (by simp) hb) x (hY b (Nat.le_trans (by simp) hb) x h)
theorem k22 {d : TDef} (h : d.good) (H : Heap) (K) : callP env 22 [d.av] H K = K d.av H := callP_eq (r22 h H) K
end Go.AM.T

/- Contracts: the making of a table of types. -/
namespace Go.AM.T
set_option linter.unusedVariables false
set_option linter.unusedSimpArgs false
set_option maxRecDepth 100000

theorem trOk_two {ops : List RO} {tr : List Tr} (S N : List Nat) (h1 : (drawPairs ops).all (fun p => S.contains p.2 || N.contains p.1) = true) (h2 : ∀ t ∈ tr, t.before.length ≤ t.after.length)
    (h3 : ∀ l ∈ S, ∀ t, tr[l]? = some t → ∀ b, b < t.before.length → t.after[b]? = t.before[b]?) (h4 : ∀ i ∈ N, ∀ t, tr[i]? = some t → t.foot = none) : trOk ops tr = true := by
  simp only [trOk, Bool.and_eq_true, List.all_eq_true, decide_eq_true_eq]
  refine ⟨h2, fun p hp => ?_⟩
  have hs := List.all_eq_true.1 h1 p hp
  simp only [Bool.or_eq_true, List.contains_iff_mem] at hs
  unfold pairOk
  split
  · rename_i ti tl e1 e2
    split
    · rfl
    · rename_i b hb
      rcases hs with hs | hs
      · by_cases hlt : b < tl.before.length
        · simp [h3 _ hs tl e2 b hlt]
        · simp; left; omega
      · rw [h4 _ hs ti e1] at hb; cases hb
  · rfl
def fiveL : List Str := [[73, 110, 116], [70, 108, 111, 97, 116], [83, 116, 114, 105, 110, 103], [66, 111, 111, 108, 101, 97, 110], [73, 68]]
theorem r20 (H : Heap) : Ret env 20 [] H (.data (strs fiveL)) H := by
  refine Ret.isoX (f := c20) rfl rfl rfl (PubL.plain rfl) (Eq.mpr (x20 _ _ _) ?_)
  refine ⟨strs fiveL, rfl, ?_⟩
  exact Pub.row (b := 0) (tag := 0) (fz := 0) (cs := strs fiveL) rfl (strs_scalar _)
theorem k20 (H : Heap) (K) : callP env 20 [] H K = K (.data (strs fiveL)) H := callP_eq (r20 H) K
def primDef (s : Str) : TDef := ⟨1, s, none, .nils, none, .nils, 0⟩
theorem primDef_ok (s : Str) (h : Short s) : (primDef s).ok := ⟨rfl, rfl, by simp [primDef], by simp [primDef], h⟩
theorem look_none {t : Tab} {n : Str} (h : t.look n = none) : (t.findIdx? fun p => p.1 == n) = none := by
  have := look_idx n t
  cases hi : t.findIdx? fun p => p.1 == n with
  | none => rfl
  | some i => rw [hi] at this; obtain ⟨d, h1, _⟩ := this; rw [h] at h1; cases h1
theorem mapupd_new {t : Tab} {b : Nat} {H : Heap} (hb : H[b]? = some (.map t.keys t.vals)) {n : Str} {d : TDef} (h : t.look n = none) : mapupdA .str (.map b) (.str n) d.av H = some (H.set b (.map (Tab.keys (t ++ [(n, d)])) (Tab.vals (t ++ [(n, d)])))) := by
  simp only [mapupdA, AV.isKey, decide_true, if_true, hb, findK_str, look_none h, Option.map_none, Option.map_some]
  simp [Tab.keys, Tab.vals]
def step (s : Tab × List Str) (d : TDef) : Tab × List Str := if (s.1.look d.name).isSome then s else (s.1 ++ [(d.name, d)], s.2 ++ [d.name])
def fiveT : Tab := fiveL.map fun s => (s, primDef s)
def newT (l : List TDef) : Tab × List Str := l.foldl step (fiveT, [])
def ordO (l : List Str) : Option (List Str) := if l = [] then none else some l
/-- What New keeps. -/
structure HI (H : Heap) (t : Tab) (l : List Str) : Prop where
  m : H[0]? = some (.map t.keys t.vals)
  c : ∃ ov, H[1]? = some (.cells [.map 0, ov]) ∧ OutL ov H l
theorem OutL.cell {v H l} (h : OutL v H l) : v.isCell = true := by
  rcases h with ⟨rfl, _⟩ | ⟨b, rfl, _⟩ <;> rfl
theorem OutL.pub {v H l} (h : OutL v H l) : Pub false H v (ostr (ordO l)) := by
  rcases h with ⟨rfl, rfl⟩ | ⟨b, rfl, hb, h0⟩
  · exact Pub.scalar rfl
  · have : l ≠ [] := by intro e; subst e; simp at h0
    simp only [ordO, this, if_false, ostr]
    have := Pub.row (fr := false) hb (strs_scalar l)
    simpa using this
theorem HI.pub {H t l} (h : HI H t l) (ht : t.ok) : Pub false H (.ptr 1 0) (TT t (ordO l)) := by
  obtain ⟨ov, h1, h2⟩ := h.c
  refine Pub.ptr h1 (by simp) ?_
  refine .cons (Pub.map h.m (PubLF.plain t.keys_noIds) (PubLF.plain (t.vals_noIds ht))) (.cons h2.pub .nil)
theorem HI.grow {H t l} (h : HI H t l) (X : Heap) : HI (H ++ X) t l := by
  obtain ⟨ov, h1, h2⟩ := h.c
  exact ⟨getElem?_grow h.m X, ov, getElem?_grow h1 X, h2.grow X⟩
theorem HI.two {H t l} (h : HI H t l) : 2 ≤ H.length := by
  obtain ⟨ov, h1, h2⟩ := h.c
  have := (List.getElem?_eq_some_iff.1 h1).1
  omega
theorem lookup_own {t : Tab} {b : Nat} {H : Heap} (hb : H[b]? = some (.map t.keys t.vals)) (n : Str) : lookupA .str (.agg [I 0, .str [], .nils, .nils, .nils, .nils, I 0]) (.map b) (.str n) true H = some (.tup [(t.get n).av, .bool (t.look n).isSome]) := by
  have := lookup_t t n H
  simp only [lookupA, mapOf, hb] at this ⊢
  exact this
theorem set_last (H : Heap) (x y : Blk) : (H ++ [x]).set H.length y = H ++ [y] := by simp
theorem HI.put {H t l} (h : HI H t l) (n : Str) (d : TDef) : HI (H.set 0 (.map (Tab.keys (t ++ [(n, d)])) (Tab.vals (t ++ [(n, d)])))) (t ++ [(n, d)]) l := by
  have h2 := h.two
  obtain ⟨ov, h1, ho⟩ := h.c
  refine ⟨by rw [List.getElem?_set_self (by omega)], ov, by rw [List.getElem?_set_ne (by omega)]; exact h1, ?_⟩
  rcases ho with ho | ⟨b, e, hb, h0⟩
  · exact .inl ho
  · refine .inr ⟨b, e, ?_, h0⟩
    have : (0 : Nat) ≠ b := by intro e; subst e; rw [h.m] at hb; cases hb
    rw [List.getElem?_set_ne this]; exact hb
theorem OutL.ne {v : AV} {H : Heap} {l : List Str} (h : OutL v H l) {b : Nat} {x : Blk} (hb : H[b]? = some x) (hx : ∀ cs, x ≠ .arr 1 0 0 cs) : v ≠ .sl b 0 l.length none := by
  rintro rfl
  rcases h with ⟨h, _⟩ | ⟨c, h1, h2, _⟩
  · cases h
  · injection h1 with e
    subst e
    rw [hb] at h2
    injection h2 with h2
    exact hx _ h2
theorem HI.order {H H' t l} {v : AV} {s : Str} (h : HI H t l) (ho : OutL v H' (l ++ [s])) (hk : ∀ b x, b < 2 → H[b]? = some x → H'[b]? = some x) : HI (H'.set 1 (.cells [.map 0, v])) t (l ++ [s]) := by
  obtain ⟨ov, h1, h2⟩ := h.c
  have h1' := hk 1 _ (by omega) h1
  have hl : 1 < H'.length := (List.getElem?_eq_some_iff.1 h1').1
  refine ⟨by rw [List.getElem?_set_ne (by omega)]; exact hk 0 _ (by omega) h.m, v, by simp [hl], ?_⟩
  rcases ho with ho | ⟨b, e, hb, h0⟩
  · exact .inl ho
  · refine .inr ⟨b, e, ?_, h0⟩
    have : (1 : Nat) ≠ b := by intro e; subst e; rw [h1'] at hb; cases hb
    rw [List.getElem?_set_ne this]; exact hb
theorem Tab.ok_append {t : Tab} {n : Str} {d : TDef} (h : t.ok) (hd : d.ok) : Tab.ok (t ++ [(n, d)]) := by
  intro p hp
  rcases List.mem_append.1 hp with hp | hp
  · exact h p hp
  · simp at hp; subst hp; exact hd
theorem fiveT_ok : fiveT.ok := by
  intro p hp
  obtain ⟨s, hs, rfl⟩ := List.mem_map.1 hp
  refine primDef_ok s ?_
  simp [fiveL] at hs
  rcases hs with rfl | rfl | rfl | rfl | rfl <;> simp
theorem fold_take {l : List TDef} {i : Nat} {d : TDef} (h : l[i]? = some d) : (l.take (i + 1)).foldl step (fiveT, []) = step ((l.take i).foldl step (fiveT, [])) d := by
  rw [List.take_succ, h, List.foldl_append]; rfl
theorem newT_ok : ∀ (l : List TDef) (s : Tab × List Str), s.1.ok → (∀ d ∈ l, d.ok) → (l.foldl step s).1.ok ∧ (l.foldl step s).2.length ≤ s.2.length + l.length
  | [], s, hs, _ => ⟨hs, by simp⟩
  | d :: r, s, hs, hl => by
    have h1 : (step s d).1.ok := by
      unfold step
      split
      · exact hs
      · exact Tab.ok_append hs (hl d (by simp))
    have h2 : (step s d).2.length ≤ s.2.length + 1 := by
      unfold step; split <;> simp
    have := newT_ok r (step s d) h1 fun x hx => hl x (by simp [hx])
    exact ⟨this.1, by have := this.2; simp only [List.foldl_cons, List.length_cons]; omega⟩
theorem TDef.cells_all {d : TDef} (h : d.good) : ([I d.kind, .str d.name, ostr d.impl, d.fields, ostr d.mem, d.inputs, I d.pos] : List AV).all AV.isCell = true := by
  simp [ostr_cell, h.f.cell, h.i.cell]; simp [AV.isCell]
theorem get_cells_all {t : Tab} (h : ∀ p ∈ t, p.2.good ∨ ∃ s, p.2 = primDef s) (n : Str) : ([I (t.get n).kind, .str (t.get n).name, ostr (t.get n).impl, (t.get n).fields, ostr (t.get n).mem, (t.get n).inputs, I (t.get n).pos] : List AV).all AV.isCell = true := by
  unfold Tab.get Tab.look
  cases e : t.find? fun p => p.1 == n with
  | none => rfl
  | some p =>
    rcases h p (List.mem_of_find?_eq_some e) with h | ⟨s, h⟩
    · exact TDef.cells_all h
    · rw [Option.map_some, Option.getD_some, h]; rfl
def Tab.nice (t : Tab) : Prop := ∀ p ∈ t, p.2.good ∨ ∃ s, p.2 = primDef s
theorem fold_nice : ∀ (l : List TDef) (s : Tab × List Str), s.1.nice → (∀ d ∈ l, d.good) → (l.foldl step s).1.nice
  | [], s, hs, _ => hs
  | d :: r, s, hs, hl => by
    refine fold_nice r (step s d) ?_ fun x hx => hl x (by simp [hx])
    unfold step
    split
    · exact hs
    · intro p hp
      rcases List.mem_append.1 hp with hp | hp
      · exact hs p hp
      · simp at hp; subst hp; exact .inl (hl d (by simp))
theorem fiveT_nice : fiveT.nice := by
  intro p hp
  obtain ⟨s, hs, rfl⟩ := List.mem_map.1 hp
  exact .inr ⟨s, rfl⟩
theorem five_absent {i : Nat} (h : i < fiveL.length) : Tab.look ((fiveL.take i).map fun s => (s, primDef s)) fiveL[i] = none := by
  have : i = 0 ∨ i = 1 ∨ i = 2 ∨ i = 3 ∨ i = 4 := by simp [fiveL] at h; omega
  rcases this with rfl | rfl | rfl | rfl | rfl <;> rfl
theorem r6 {a : AV} {l : List TDef} (ha : SLike a (l.map TDef.av)) (hg : ∀ d ∈ l, d.good) (hl : l.length ≤ 8796093022000) {args : List AV} {H : Heap} (hp : PubL H args [a]) (hfr : AV.noIdsL args = true) : Ret env 6 args H (TT (newT l).1 (ordO (newT l).2)) H := by
  refine Ret.isoX (f := c6) rfl rfl rfl hp (Eq.mpr (x6 _ _ _ _) ?_)
  rw [hfr]
  refine ⟨_, rfl, ?_⟩
  show boxP (.agg [.map 0, .nils]) ([] ++ [Blk.map [] []]) _
  rw [boxP_agg _ _ _ (by simp [AV.isCell])]
  show callP env 20 [] ([Blk.map [] []] ++ [Blk.cells [.map 0, .nils]]) _
  rw [k20]
  refine ⟨_, rfl, ?_⟩
  refine ⟨fun n f H' => ∃ i : Nat, i + n = 5 ∧ f 15 = I ↑i ∧ HI H' ((fiveL.take i).map fun s => (s, primDef s)) [], ⟨5, 0, by simp, rfl, ⟨rfl, .nils, rfl, OutL.nil _⟩⟩, ?_⟩
  rintro n f H1 ⟨i, hi, h15, hh⟩
  rw [h15, lssI, getP_some, splitB_iff]
  refine ⟨fun hlt => ?_, fun hlt => ?_⟩
  · have hlt : i < fiveL.length := by simpa using hlt
    obtain ⟨ov, hc, ho⟩ := hh.c
    rw [(SLike.data (strs fiveL)).iaddr (get_map hlt) (strs_cells _), getP_some]
    refine ⟨.str fiveL[i], rfl, _, rfl, _, rfl, .map 0, load_cells hc rfl, _, rfl, ?_⟩
    show getH (mapupdA .str (.map 0) (.str fiveL[i]) (primDef fiveL[i]).av H1) _
    have hi9 : i < 5 := hlt
    rw [mapupd_new hh.m (five_absent hlt), getH_some, add1 (by omega), getP_some]
    refine ⟨n - 1, by omega, i + 1, by omega, rfl, ?_⟩
    have e : (fiveL.take (i + 1)).map (fun s => (s, primDef s)) = (fiveL.take i).map (fun s => (s, primDef s)) ++ [(fiveL[i], primDef fiveL[i])] := by
      rw [List.take_succ, List.getElem?_eq_getElem hlt, List.map_append]; rfl
    rw [e]
    exact hh.put _ _
  have hi5 : i = 5 := by have : ¬ i < fiveL.length := by simpa using hlt
                         simp [fiveL] at this; omega
  subst hi5
  rw [ha.len, getP_some, List.length_map]
  refine ⟨fun n f H' => ∃ i : Nat, i + n = l.length ∧ f 29 = I ↑i ∧ HI H' ((l.take i).foldl step (fiveT, [])).1 ((l.take i).foldl step (fiveT, [])).2, ⟨l.length, 0, by simp, rfl, hh⟩, ?_⟩
  clear hh hi h15 hlt
  rintro n2 f2 H2 ⟨i, hi, h29, hh⟩
  rw [h29, lssI, getP_some, splitB_iff]
  refine ⟨fun hlt => ?_, fun hlt => ?_⟩
  · have hlt : i < l.length := by simpa using hlt
    have hgi := List.getElem?_eq_getElem hlt
    have hgood := hg l[i] (List.getElem_mem hlt)
    have hst := fold_take hgi
    have hnice := fold_nice (l.take i) (fiveT, []) fiveT_nice fun d hd => hg d (List.mem_of_mem_take hd)
    have hlen := (newT_ok (l.take i) (fiveT, []) fiveT_ok fun d hd => (hg d (List.mem_of_mem_take hd)).ok).2
    generalize (l.take i).foldl step (fiveT, []) = S at *
    obtain ⟨t, names⟩ := S
    simp only at hh hnice hlen hst
    have hsz : ∀ x ∈ l.map TDef.av, x.cells.length = szOf (some 7) := by
      intro x hx
      obtain ⟨d, _, rfl⟩ := List.mem_map.1 hx
      rfl
    rw [ha.iaddr (get_map hlt) hsz, getP_some]
    refine ⟨l[i].av, rfl, ?_⟩
    show boxP (.agg [I 0, .str [], .nils, .nils, .nils, .nils, I 0]) H2 _
    rw [boxP_agg _ _ _ (by simp [AV.isCell])]
    have e1 : storeA 7 (.ptr H2.length 0) l[i].av (H2 ++ [Blk.cells [I 0, .str [], .nils, .nils, .nils, .nils, I 0]]) = some (H2 ++ [.cells l[i].av.cells]) := by
      have := store_cells0 (H := H2 ++ [Blk.cells [I 0, .str [], .nils, .nils, .nils, .nils, I 0]]) (b := H2.length) (n := 7) (cs := [I 0, .str [], .nils, .nils, .nils, .nils, I 0]) (vs := [I l[i].kind, .str l[i].name, ostr l[i].impl, l[i].fields, ostr l[i].mem, l[i].inputs, I l[i].pos]) (by simp) rfl rfl (TDef.cells_all hgood)
      rw [set_last] at this
      exact this
    rw [e1, getH_some]
    refine ⟨by kernel_rfl, ?_⟩
    have h34 := hh.grow [.cells l[i].av.cells]
    have hx : (H2 ++ [Blk.cells l[i].av.cells])[H2.length]? = some (.cells l[i].av.cells) := by simp
    generalize hH3 : H2 ++ [Blk.cells l[i].av.cells] = H3 at *
    obtain ⟨ov, hc, ho⟩ := h34.c
    refine ⟨_, rfl, _, rfl, .map 0, load_cells hc rfl, _, rfl, .str l[i].name, load_cells hx rfl, _, lookup_own h34.m _, _, rfl, _, rfl, ?_⟩
    show boxP (.agg [I 0, .str [], .nils, .nils, .nils, .nils, I 0]) H3 _
    rw [boxP_agg _ _ _ (by simp [AV.isCell])]
    have e2 : storeA 7 (.ptr H3.length 0) (t.get l[i].name).av (H3 ++ [Blk.cells [I 0, .str [], .nils, .nils, .nils, .nils, I 0]]) = some (H3 ++ [.cells (t.get l[i].name).av.cells]) := by
      have := store_cells0 (H := H3 ++ [Blk.cells [I 0, .str [], .nils, .nils, .nils, .nils, I 0]]) (b := H3.length) (n := 7) (cs := [I 0, .str [], .nils, .nils, .nils, .nils, I 0]) (vs := [I (t.get l[i].name).kind, .str (t.get l[i].name).name, ostr (t.get l[i].name).impl, (t.get l[i].name).fields, ostr (t.get l[i].name).mem, (t.get l[i].name).inputs, I (t.get l[i].name).pos]) (by simp) rfl rfl (get_cells_all hnice _)
      rw [set_last] at this
      exact this
    rw [e2, getH_some]
    refine ⟨trOk_two [] [0, 1, 2, 4, 7, 8, 9, 10, 11, 12] (by kernel_rfl) (by simp) (by simp) (by simp), ?_⟩
    have h45 := h34.grow [.cells (t.get l[i].name).av.cells]
    have hx2 : (H3 ++ [Blk.cells (t.get l[i].name).av.cells])[H2.length]? = some (.cells l[i].av.cells) := getElem?_grow hx _
    generalize hH4 : H3 ++ [Blk.cells (t.get l[i].name).av.cells] = H4 at *
    rw [notB, getP_some, splitB_iff]
    refine ⟨fun hno => ?_, fun hyes => ?_⟩
    · have hno : (t.look l[i].name).isSome = false := by simpa using hno
      have hnone : t.look l[i].name = none := by simpa using hno
      obtain ⟨ov2, hc2, ho2⟩ := h45.c
      refine ⟨by kernel_rfl, _, rfl, _, rfl, .map 0, load_cells hc2 rfl, _, rfl, .str l[i].name, load_cells hx2 rfl, l[i].av, ?_, ?_⟩
      · show loadA (some 7) (.ptr H2.length 0) H4 = _
        exact load_cells0 (cs := l[i].av.cells) hx2 rfl
      refine ⟨_, _, r22 hgood _, ?_⟩
      show getH (mapupdA .str (.map 0) (.str l[i].name) l[i].av H4) _
      rw [mapupd_new h45.m hnone, getH_some]
      refine ⟨trOk_two [7] [0, 1, 2, 4, 7, 8] (by kernel_rfl) (by simp) ?_ (by simp), ?_⟩
      · intro k hk tr htr b hb
        simp at hk; subst hk
        simp at htr; subst htr; rfl
      have h55 := h45.put l[i].name l[i]
      have hx3 : (H4.set 0 (.map (Tab.keys (t ++ [(l[i].name, l[i])])) (Tab.vals (t ++ [(l[i].name, l[i])]))))[H2.length]? = some (.cells l[i].av.cells) := by
        rw [List.getElem?_set_ne (by have := hh.two; omega)]; exact hx2
      generalize hH5 : H4.set 0 (.map (Tab.keys (t ++ [(l[i].name, l[i])])) (Tab.vals (t ++ [(l[i].name, l[i])]))) = H5 at *
      obtain ⟨ov3, hc3, ho3⟩ := h55.c
      refine ⟨by kernel_rfl, _, rfl, _, rfl, ov3, load_cells hc3 rfl, _, rfl, .str l[i].name, load_cells hx3 rfl, ?_⟩
      obtain ⟨v', H6, q1, q2, q3, q4, q5⟩ := app1 ho3 l[i].name (by simp at hlen; omega)
      show sliceP none 0 1 [AV.str []] [(0, 1, AV.str l[i].name)] H5 _
      rw [q5]
      have hk : ∀ b x, b < 2 → H5[b]? = some x → H6[b]? = some x := by
        intro b x hb hx
        refine q2 b x hx (ho3.ne hx ?_)
        have : b = 0 ∨ b = 1 := by omega
        rcases this with rfl | rfl
        · rw [h55.m] at hx; cases hx; intro cs h; cases h
        · rw [hc3] at hx; cases hx; intro cs h; cases h
      refine ⟨_, rfl, _, rfl, _, store_cells (cs := [.map 0, ov3]) (hk 1 _ (by omega) hc3) (by simp) q1.cell, ?_⟩
      refine ⟨trOk_two [7] [0, 1, 2, 3, 5, 8, 9, 10, 11] (by kernel_rfl) ?_ ?_ (by simp), ?_⟩
      · simp
        omega
      · intro k hk tr htr b hb
        simp at hk; subst hk
        simp at htr; subst htr
        exact List.getElem?_append_left hb
      rw [add1 (by omega), getP_some]
      refine ⟨n2 - 1, by omega, i + 1, by omega, rfl, ?_⟩
      have es : step (t, names) l[i] = (t ++ [(l[i].name, l[i])], names ++ [l[i].name]) := by simp [step, hno]
      rw [hst, es]
      exact h55.order q1 hk
    · have hyes : (t.look l[i].name).isSome = true := by simpa using hyes
      rw [add1 (by omega), getP_some]
      refine ⟨n2 - 1, by omega, i + 1, by omega, rfl, ?_⟩
      have es : step (t, names) l[i] = (t, names) := by simp [step, hyes]
      rw [hst, es]
      exact h45
  · have : l.take i = l := by rw [List.take_of_length_le]; simpa using hlt
    rw [this] at hh
    exact hh.pub (newT_ok l (fiveT, []) fiveT_ok fun d hd => (hg d hd).ok).1
end Go.AM.T

/- Contracts: are these few? (whatever the answer is) -/
namespace Go.AM.T
set_option linter.unusedVariables false
set_option linter.unusedSimpArgs false
set_option maxRecDepth 100000

/-- All but one block stays as it is; that one holds a number. -/
structure Keep (b : Nat) (H H' : Heap) : Prop where
  len : H.length ≤ H'.length
  old : ∀ c cs, c ≠ b → H[c]? = some (.cells cs) → H'[c]? = some (.cells cs)
  num : ∃ m, H'[b]? = some (.cells [I m])
theorem Keep.trans {b H1 H2 H3} (h : Keep b H1 H2) (k : Keep b H2 H3) : Keep b H1 H3 :=
  ⟨Nat.le_trans h.len k.len, fun c cs hn hc => k.old c cs hn (h.old c cs hn hc), k.num⟩
theorem Keep.refl {b H m} (h : H[b]? = some (.cells [I m])) : Keep b H H := ⟨Nat.le_refl _, fun _ _ _ h => h, m, h⟩
theorem Keep.grow {b H m} (h : H[b]? = some (.cells [I m])) (X : Heap) : Keep b H (H ++ X) :=
  ⟨by simp, fun c cs _ hc => getElem?_grow hc X, m, getElem?_grow h X⟩
theorem Keep.set {b H} {m : Int} (h : H[b]? = some (.cells [I m])) (m' : Int) : Keep b H (H.set b (.cells [I m'])) := by
  have hb : b < H.length := (List.getElem?_eq_some_iff.1 h).1
  exact ⟨by simp, fun c cs hn hc => by rw [List.getElem?_set_ne (Ne.symm hn)]; exact hc, m', by simp [hb]⟩
theorem Keep.at {b c H H' x} (h : Keep b H H') (hc : H[c]? = some (.cells x)) (hn : c ≠ b) : H'[c]? = some (.cells x) := h.old c x hn hc
theorem mkv_append {n : Nat} {cs B : List AV} {v : AV} (h1 : cs.length = n) (h : mkv (some n) cs = some v) : mkv (some n) (cs ++ B) = some v := by
  subst h1; rw [← h]; simp [mkv]
theorem subI (a b : Int) : binop .sub (.int .i64 a) (.int .i64 b) = some (I (IntKind.wrap .i64 (a - b))) := by simp [binop]
theorem addI (a b : Int) : binop .add (.int .i64 a) (.int .i64 b) = some (I (IntKind.wrap .i64 (a + b))) := by simp [binop]
def isB (b : Nat) (H : Heap) (v : AV) (H' : Heap) : Prop := (∃ r, v = .bool r) ∧ Keep b H H'
theorem load_part {H : Heap} {b off m : Nat} {cs : List AV} {v : AV} (hb : H[b]? = some (.cells cs)) (hv : mkv (some m) (cs.drop off) = some v) : loadA (some m) (.ptr b off) H = some v := by
  simp only [loadA, hb, hv]
theorem load_dp {cs : List AV} {m : Nat} {v : AV} (H : Heap) (hv : mkv (some m) cs = some v) : loadA (some m) (.dptr cs) H = some v := hv
theorem r56 {v : AV} (h : IsVal v) : ∀ {H : Heap} {b : Nat} {m : Int} (d : Int), H[b]? = some (.cells [I m]) → ∃ r H', isB b H r H' ∧ Ret env 56 [v, .ptr b 0, I d] H r H' := by
  induction h with
  | @mk k p s it fi xs ys hi hf hx hy bx by_ ihx ihy =>
  intro H b m d hb
  have hv : IsVal (.agg [I k, .str s, it, fi, I p]) := .mk hi hf hx hy bx by_
  have hbl : b < H.length := (List.getElem?_eq_some_iff.1 hb).1
  refine Ret.openQ (f := c56) rfl rfl rfl (Eq.mpr (x56 _ _ _ _ _ _) ?_)
  rw [boxP_agg _ _ _ (by simpa [AV.cells] using hv.allCell)]
  have k1 := Keep.grow hb [.cells [I k, .str s, it, fi, I p]]
  have g1 := getElem?_grow hb [.cells [I k, .str s, it, fi, I p]]
  have hv1 : (H ++ [Blk.cells [I k, .str s, it, fi, I p]])[H.length]? = some (.cells [I k, .str s, it, fi, I p]) := by simp
  refine ⟨_, rfl, _, load_cells g1 rfl, _, subI _ _, _, rfl, _, store_cells (cs := [I m]) g1 (by simp) rfl, ?_⟩
  have k2 := k1.trans (Keep.set g1 (IntKind.wrap .i64 (m - 1)))
  have g2 : ((H ++ [Blk.cells [I k, .str s, it, fi, I p]]).set b (.cells [I (IntKind.wrap .i64 (m - 1))]))[H.length]? = some (.cells [I k, .str s, it, fi, I p]) := by
    rw [List.getElem?_set_ne (by omega)]; exact hv1
  have g3 : ((H ++ [Blk.cells [I k, .str s, it, fi, I p]]).set b (.cells [I (IntKind.wrap .i64 (m - 1))]))[b]? = some (.cells [I (IntKind.wrap .i64 (m - 1))]) := by
    rw [List.getElem?_set_self (by rw [List.length_append]; omega)]
  show getP _ _
  generalize hH2 : (H ++ [Blk.cells [I k, .str s, it, fi, I p]]).set b (.cells ([I m].set 0 (I (IntKind.wrap .i64 (m - 1))))) = H2
  have hH2' : (H ++ [Blk.cells [I k, .str s, it, fi, I p]]).set b (.cells [I (IntKind.wrap .i64 (m - 1))]) = H2 := hH2
  rw [hH2'] at k2 g2 g3
  have no : ∀ {H3}, Keep b H2 H3 → isB b H (.bool false) H3 := fun h => ⟨⟨_, rfl⟩, k2.trans h⟩
  have kr := Keep.refl g3
  refine ⟨_, rfl, _, load_cells g3 rfl, _, lssI _ _ _, ?_⟩
  refine splitB_bool (fun _ => no kr) fun _ => ?_
  refine ⟨_, gtrI _ _ _, ?_⟩
  refine splitB_bool (fun _ => no kr) fun _ => ?_
  refine ⟨_, rfl, .str s, load_cells g2 rfl, _, rfl, _, gtrI _ _ _, ?_⟩
  refine splitB_bool (fun _ => no kr) fun _ => ?_
  refine ⟨_, rfl, it, load_cells g2 rfl, _, hi.len _, _, gtrI _ _ _, ?_⟩
  refine splitB_bool (fun _ => no kr) fun _ => ?_
  refine ⟨_, rfl, fi, load_cells g2 rfl, _, hf.len _, _, gtrI _ _ _, ?_⟩
  refine splitB_bool (fun _ => no kr) fun _ => ?_
  refine ⟨_, rfl, it, load_cells g2 rfl, _, hi.len _, ?_⟩
  refine ⟨fun n f H3 => ∃ i : Nat, i + n = xs.length ∧ f 43 = I ↑i ∧ Keep b H2 H3, ⟨xs.length, 0, by simp, rfl, kr⟩, ?_⟩
  rintro n f H3 ⟨i, hi', h16, k3⟩
  have g4 := k3.at g2 (by omega)
  rw [h16, lssI, getP_some, splitB_iff]
  refine ⟨fun hlt => ?_, fun hlt => ?_⟩
  · have hlt : i < xs.length := by simpa using hlt
    have hgx := List.getElem?_eq_getElem hlt
    have hvx := hx xs[i] (List.getElem_mem hlt)
    refine ⟨_, rfl, it, load_cells g4 rfl, _, hi.iaddr hgx (fun x h => (hx x h).cells.1), xs[i], load_dp _ hvx.cells.2, _, addI _ _, ?_⟩
    obtain ⟨m3, g5⟩ := k3.num
    obtain ⟨r, H4, ⟨⟨r, rfl⟩, k4⟩, hr⟩ := ihx _ (List.getElem_mem hlt) (IntKind.wrap .i64 (d + 1)) g5
    refine ⟨_, _, hr, _, notB _, ?_⟩
    refine splitB_bool (fun _ => no (k3.trans k4)) fun _ => ?_
    have : xs.length < 4611686018427387904 := by simp only [BIG] at bx; omega
    rw [add1 (by omega), getP_some]
    exact ⟨n - 1, by omega, i + 1, by omega, rfl, k3.trans k4⟩
  · refine ⟨_, rfl, fi, load_cells g4 rfl, _, hf.len _, ?_⟩
    refine ⟨fun n f H3 => ∃ i : Nat, i + n = ys.length ∧ f 60 = I ↑i ∧ Keep b H2 H3, ⟨ys.length, 0, by simp, rfl, k3⟩, ?_⟩
    clear k3 g4
    rintro n2 f2 H3 ⟨i, hi', h16, k3⟩
    have g4 := k3.at g2 (by omega)
    rw [h16, lssI, getP_some, splitB_iff]
    refine ⟨fun hlt => ?_, fun hlt => ?_⟩
    · have hlt : i < ys.length := by simpa using hlt
      have hgx := get_map (f := argOf) hlt
      have hvx := hy ys[i] (List.getElem_mem hlt)
      have hcy : ∀ y ∈ ys.map argOf, y.cells.length = szOf (some 7) := by
        intro y h
        obtain ⟨z, hz, rfl⟩ := List.mem_map.1 h
        exact argOf_cells z (hy z hz)
      refine ⟨_, rfl, fi, load_cells g4 rfl, _, hf.iaddr hgx hcy, _, rfl, .str ys[i].1, rfl, _, rfl, _, gtrI _ _ _, ?_⟩
      refine splitB_bool (fun _ => no k3) fun _ => ?_
      refine ⟨_, rfl, fi, load_cells g4 rfl, _, hf.iaddr hgx hcy, _, rfl, ys[i].2.1, ?_, _, addI _ _, ?_⟩
      · exact mkv_append hvx.cells.1 hvx.cells.2
      obtain ⟨m3, g5⟩ := k3.num
      obtain ⟨r, H4, ⟨⟨r, rfl⟩, k4⟩, hr⟩ := ihy _ (List.getElem_mem hlt) (IntKind.wrap .i64 (d + 1)) g5
      refine ⟨_, _, hr, _, notB _, ?_⟩
      refine splitB_bool (fun _ => no (k3.trans k4)) fun _ => ?_
      have : ys.length < 4611686018427387904 := by simp only [BIG] at by_; omega
      rw [add1 (by omega), getP_some]
      exact ⟨n2 - 1, by omega, i + 1, by omega, rfl, k3.trans k4⟩
    · exact ⟨⟨_, rfl⟩, k2.trans k3⟩
theorem r55 {v : AV} (h : IsVal v) (H : Heap) : ∃ r, (∃ q, r = .bool q) ∧ Ret env 55 [v] H r H := by
  refine Ret.isoQ (f := c55) rfl rfl rfl (PubL.plain (by simp [AV.noIdsL, h.noIds])) (Eq.mpr (x55 _ _ _ _) ?_)
  obtain ⟨cs, rfl, hcl⟩ : ∃ cs, v = .agg cs ∧ cs.length = 5 := by cases h; exact ⟨_, rfl, rfl⟩
  rw [boxP_agg _ _ _ (by simpa [AV.cells] using h.allCell), boxP_cell _ _ _ rfl]
  refine ⟨_, store_cells (b := 1) (cs := [I 0]) rfl (by simp) rfl, .agg cs, load_cells0 (b := 0) rfl hcl, ?_⟩
  obtain ⟨r, H', ⟨⟨q, rfl⟩, _⟩, hr⟩ := r56 h (H := [.cells cs, .cells [I 400]]) (b := 1) (m := 400) 0 rfl
  exact ⟨_, _, hr, .bool q, Pub.scalar rfl, q, rfl⟩
theorem r38 {v : AV} (h : IsVal v) {H : Heap} {b : Nat} {m : Int} (hb : H[b]? = some (.cells [I m])) : ∃ r H', isB b H r H' ∧ Ret env 38 [v, .ptr b 0] H r H' := by
  have hbl : b < H.length := (List.getElem?_eq_some_iff.1 hb).1
  refine Ret.openQ (f := c38) rfl rfl rfl (Eq.mpr (x38 _ _ _ _ _) ?_)
  obtain ⟨cs, rfl, hcl⟩ : ∃ cs, v = .agg cs ∧ cs.length = 5 := by cases h; exact ⟨_, rfl, rfl⟩
  rw [boxP_agg _ _ _ (by simpa [AV.cells] using h.allCell)]
  have g1 := getElem?_grow hb [.cells cs]
  have k1 := Keep.grow hb [.cells cs]
  obtain ⟨r, ⟨q, rfl⟩, hr⟩ := r55 h (H ++ [.cells cs])
  refine ⟨.agg cs, load_cells0 (cs := cs) (by simp) hcl, _, _, hr, ?_⟩
  refine splitB_bool (fun _ => ?_) fun _ => ⟨⟨_, rfl⟩, k1⟩
  obtain ⟨r, H', ⟨⟨q, rfl⟩, k2⟩, hr⟩ := r56 h 0 g1
  exact ⟨.agg cs, load_cells0 (cs := cs) (by simp) hcl, _, _, hr, ⟨_, rfl⟩, k1.trans k2⟩
theorem InD.allCell (z : InD) (h : IsVal z.v) : z.av.cells.all AV.isCell = true := by
  show (AV.str z.n :: .str z.t :: .bool z.has :: (z.v.cells ++ [I z.p])).all AV.isCell = true
  simp only [List.all_cons, List.all_append, h.allCell]; rfl
theorem r31 {a : AV} (h : IsIns a) {H : Heap} {b : Nat} {m : Int} (hb : H[b]? = some (.cells [I m])) : ∃ r H', isB b H r H' ∧ Ret env 31 [a, .ptr b 0] H r H' := by
  obtain ⟨zs, h1, h2, h3⟩ := h
  have hcz : ∀ z ∈ zs.map InD.av, z.cells.length = szOf (some 9) := by
    intro y h
    obtain ⟨z, hz, rfl⟩ := List.mem_map.1 h
    exact z.cells (h2 z hz)
  refine Ret.openQ (f := c31) rfl rfl rfl (Eq.mpr (x31 _ _ _ _ _) ?_)
  have no : ∀ {H3}, Keep b H H3 → isB b H (.bool false) H3 := fun h => ⟨⟨_, rfl⟩, h⟩
  refine ⟨_, h1.len _, _, gtrI _ _ _, splitB_bool (fun _ => no (Keep.refl hb)) fun _ => ?_⟩
  refine ⟨_, h1.len _, ?_⟩
  refine ⟨fun n f H3 => ∃ i : Nat, i + n = zs.length ∧ f 12 = I ↑i ∧ Keep b H H3, ⟨zs.length, 0, by simp, rfl, Keep.refl hb⟩, ?_⟩
  rintro n f H3 ⟨i, hi', h16, k3⟩
  rw [h16, lssI, getP_some, splitB_iff]
  refine ⟨fun hlt => ?_, fun hlt => ⟨⟨_, rfl⟩, k3⟩⟩
  have hlt : i < zs.length := by simpa using hlt
  have hgx := get_map (f := InD.av) hlt
  have hvx := h2 zs[i] (List.getElem_mem hlt)
  obtain ⟨m3, g3⟩ := k3.num
  have hbl : b < H3.length := (List.getElem?_eq_some_iff.1 g3).1
  refine ⟨_, h1.iaddr hgx hcz, zs[i].av, load_dn (zs[i].cells hvx) _, ?_⟩
  show boxP (.agg [AV.str [], .str [], .bool false, I 0, .str [], .nils, .nils, I 0, I 0]) H3 _
  rw [boxP_agg _ _ _ (by simp [AV.isCell])]
  have e1 := store_cells0 (H := H3 ++ [Blk.cells [AV.str [], .str [], .bool false, I 0, .str [], .nils, .nils, I 0, I 0]]) (b := H3.length) (n := 9) (cs := [AV.str [], .str [], .bool false, I 0, .str [], .nils, .nils, I 0, I 0]) (vs := zs[i].av.cells) (by simp) rfl (zs[i].cells hvx) (zs[i].allCell hvx)
  rw [set_last] at e1
  refine ⟨_, e1, ?_⟩
  have k4 := Keep.grow g3 [.cells zs[i].av.cells]
  have g4 := getElem?_grow g3 [.cells zs[i].av.cells]
  have v4 : (H3 ++ [Blk.cells zs[i].av.cells])[H3.length]? = some (.cells zs[i].av.cells) := by simp
  generalize hH4 : H3 ++ [Blk.cells zs[i].av.cells] = H4 at *
  refine ⟨_, rfl, _, load_cells g4 rfl, _, subI _ _, _, rfl, _, store_cells (cs := [I m3]) g4 (by simp) rfl, ?_⟩
  have hb4 : b < H4.length := (List.getElem?_eq_some_iff.1 g4).1
  have k5 := k4.trans (Keep.set g4 (IntKind.wrap .i64 (m3 - 5)))
  have v5 : (H4.set b (.cells [I (IntKind.wrap .i64 (m3 - 5))]))[H3.length]? = some (.cells zs[i].av.cells) := by
    rw [List.getElem?_set_ne (by omega)]; exact v4
  have g5 : (H4.set b (.cells [I (IntKind.wrap .i64 (m3 - 5))]))[b]? = some (.cells [I (IntKind.wrap .i64 (m3 - 5))]) := by
    rw [List.getElem?_set_self hb4]
  show getP _ _
  generalize hH5 : H4.set b (.cells ([I m3].set 0 (I (IntKind.wrap .i64 (m3 - 5))))) = H5
  have hH5' : H4.set b (.cells [I (IntKind.wrap .i64 (m3 - 5))]) = H5 := hH5
  rw [hH5'] at k5 v5 g5
  have kk := k3.trans k5
  refine ⟨_, rfl, _, load_cells g5 rfl, _, lssI _ _ _, splitB_bool (fun _ => no kk) fun _ => ?_⟩
  refine ⟨_, rfl, .str zs[i].n, load_cells v5 rfl, _, rfl, _, gtrI _ _ _, splitB_bool (fun _ => no kk) fun _ => ?_⟩
  refine ⟨_, rfl, .str zs[i].t, load_cells v5 rfl, _, rfl, _, gtrI _ _ _, splitB_bool (fun _ => no kk) fun _ => ?_⟩
  refine ⟨_, rfl, zs[i].v, load_part v5 ?_, ?_⟩
  · exact mkv_append hvx.cells.1 hvx.cells.2
  obtain ⟨r, H6, ⟨⟨q, rfl⟩, k6⟩, hr⟩ := r38 hvx g5
  refine ⟨_, _, hr, _, notB _, splitB_bool (fun _ => no (kk.trans k6)) fun _ => ?_⟩
  have : zs.length < 4611686018427387904 := by simp only [BIG] at h3; omega
  rw [add1 (by omega), getP_some]
  exact ⟨n - 1, by omega, i + 1, by omega, rfl, kk.trans k6⟩
end Go.AM.T

/- Contracts: are the types few? (whatever the answer is) -/
namespace Go.AM.T
set_option linter.unusedVariables false
set_option linter.unusedSimpArgs false
set_option maxRecDepth 100000

def SlOwn (v : AV) (H : Heap) (l : List Str) : Prop := ∃ b, v = .sl b 0 l.length none ∧ H[b]? = some (.arr 1 0 0 (strs l))
theorem strs_flat (l : List Str) : (strs l).flatMap AV.cells = strs l := by
  induction l with
  | nil => rfl
  | cons x r ih => simp only [strs] at ih ⊢; simp [AV.cells, ih]
theorem appO {v : AV} {H : Heap} {l : List Str} (h : SlOwn v H l) (o : Option (List Str)) (hl : l.length + (o.getD []).length ≤ 8796093022000) :
    ∃ v' H', appA none 0 16 v (ostr o) H = some (v', H') ∧ SlOwn v' H' (l ++ o.getD []) ∧ H.length ≤ H'.length ∧ ∀ (c : Nat) (cs : List AV), H[c]? = some (Blk.cells cs) → H'[c]? = some (Blk.cells cs) := by
  obtain ⟨b, rfl, hb⟩ := h
  have he : elemsOf 1 H (ostr o) = some (strs (o.getD []), (o.getD []).length) := by
    cases o with
    | none => rfl
    | some m =>
      have : (strs m).all (fun x => x.cells.length == 1) = true := by simp [AV.cells]
      simp only [ostr, elemsOf, this, if_true, Option.getD_some, strs_flat, List.length_map]
  by_cases h0 : (o.getD []).length = 0
  · have hz : o.getD [] = [] := List.eq_nil_of_length_eq_zero h0
    refine ⟨.sl b 0 l.length none, H, ?_, ?_, Nat.le_refl _, fun _ _ h => h⟩
    · simp [appA, szOf, he, appendA, hz]
    · rw [hz, List.append_nil]; exact ⟨b, rfl, hb⟩
  · have h1 : (l.length + (o.getD []).length) * 16 ≤ 140737488355328 := by omega
    have h2 : l.length + (o.getD []).length < 9223372036854775808 := by omega
    have e : List.take l.length (strs l) = strs l := by rw [show l.length = (strs l).length by simp, List.take_length]
    refine ⟨.sl H.length 0 (l.length + (o.getD []).length) none, H.set b .dead ++ [.arr 1 0 0 (strs l ++ strs (o.getD []))], ?_, ?_, by simp, ?_⟩
    · simp only [appA, szOf, Option.getD_none, he, appendA, if_true, h0, if_false, hb, Nat.mul_one, Nat.zero_add, List.length_map, Nat.zero_le, Nat.le_refl, h1, h2, and_self, Nat.zero_sub, List.drop_zero, e]
    · exact ⟨H.length, by simp, by rw [List.getElem?_append_right (by simp)]; simp⟩
    · intro c cs hc
      refine getElem?_grow ?_ _
      rw [List.getElem?_set_ne]
      · exact hc
      · rintro rfl; rw [hb] at hc; cases hc
theorem trOk_three {ops : List RO} {tr : List Tr} (N : List Nat) (Q : List (Nat × Nat)) (h1 : (drawPairs ops).all (fun p => N.contains p.1 || Q.contains p) = true) (h2 : ∀ t ∈ tr, t.before.length ≤ t.after.length)
    (h3 : ∀ p ∈ Q, pairOk tr p = true) (h4 : ∀ i ∈ N, ∀ t, tr[i]? = some t → t.foot = none) : trOk ops tr = true := by
  simp only [trOk, Bool.and_eq_true, List.all_eq_true, decide_eq_true_eq]
  refine ⟨h2, fun p hp => ?_⟩
  have hs := List.all_eq_true.1 h1 p hp
  simp only [Bool.or_eq_true, List.contains_iff_mem] at hs
  rcases hs with hs | hs
  · unfold pairOk
    split
    · rename_i ti tl e1 e2
      rw [h4 _ hs ti e1]
    · rfl
  · exact h3 p hs
theorem sl0 (H : Heap) (K) : sliceP none 0 0 [AV.str []] [] H K = K (.sl H.length 0 0 none) (H ++ [Blk.arr 1 0 0 []]) := by
  refine propext ⟨?_, fun h => ⟨[], rfl, h⟩⟩
  rintro ⟨cs, h1, h2⟩
  cases h1
  exact h2
theorem r4 {a : AV} {l : List TDef} (ha : SLike a (l.map TDef.av)) (hg : ∀ d ∈ l, d.good) (hl : l.length ≤ 8796093022000) {args : List AV} {H : Heap} (hp : PubL H args [a]) : ∃ r, (∃ q, r = .bool q) ∧ Ret env 4 args H r H := by
  refine Ret.isoQ (f := c4) rfl rfl rfl hp (Eq.mpr (x4 _ _ _ _) ?_)
  have done : ∀ {q : Bool} {H : Heap} {fr : Bool}, ∃ v, Pub fr H (.bool q) v ∧ ∃ q, v = .bool q := fun {q _ _} => ⟨.bool q, Pub.scalar rfl, q, rfl⟩
  rw [boxP_cell _ _ _ rfl]
  refine ⟨_, store_cells (b := 0) (cs := [I 0]) rfl (by simp) rfl, ?_⟩
  refine ⟨_, ha.len _, _, gtrI _ _ _, splitB_bool (fun _ => done) fun _ => ?_⟩
  refine ⟨_, ha.len _, ?_⟩
  refine ⟨fun n f H3 => ∃ i : Nat, i + n = l.length ∧ f 15 = I ↑i ∧ ∃ m, H3[0]? = some (.cells [I m]), ⟨l.length, 0, by simp, rfl, 20000, rfl⟩, ?_⟩
  rintro n f H3 ⟨i, hi, h15, m, g3⟩
  rw [h15, lssI, getP_some, splitB_iff]
  refine ⟨fun hlt => ?_, fun hlt => done⟩
  have hlt : i < l.length := by simpa using hlt
  have hgi := List.getElem?_eq_getElem hlt
  have hgood := hg l[i] (List.getElem_mem hlt)
  have hsz : ∀ x ∈ l.map TDef.av, x.cells.length = szOf (some 7) := by
    intro x hx
    obtain ⟨d, _, rfl⟩ := List.mem_map.1 hx
    rfl
  generalize l[i] = d at *
  have hgd : (l.map TDef.av)[i]? = some d.av := by simp [hgi]
  refine ⟨_, ha.iaddr hgd hsz, d.av, rfl, ?_⟩
  show boxP (.agg [I 0, .str [], .nils, .nils, .nils, .nils, I 0]) H3 _
  rw [boxP_agg _ _ _ (by simp [AV.isCell])]
  have e1 := store_cells0 (H := H3 ++ [Blk.cells [I 0, .str [], .nils, .nils, .nils, .nils, I 0]]) (b := H3.length) (n := 7) (cs := [I 0, .str [], .nils, .nils, .nils, .nils, I 0]) (vs := [I d.kind, .str d.name, ostr d.impl, d.fields, ostr d.mem, d.inputs, I d.pos]) (by simp) rfl rfl (TDef.cells_all hgood)
  rw [set_last] at e1
  refine ⟨_, e1, ?_⟩
  have h0 : 0 < H3.length := (List.getElem?_eq_some_iff.1 g3).1
  have g4 := getElem?_grow g3 [Blk.cells [I d.kind, .str d.name, ostr d.impl, d.fields, ostr d.mem, d.inputs, I d.pos]]
  have v4 : (H3 ++ [Blk.cells [I d.kind, .str d.name, ostr d.impl, d.fields, ostr d.mem, d.inputs, I d.pos]])[H3.length]? = some (.cells [I d.kind, .str d.name, ostr d.impl, d.fields, ostr d.mem, d.inputs, I d.pos]) := by simp
  generalize hH4 : H3 ++ [Blk.cells [I d.kind, .str d.name, ostr d.impl, d.fields, ostr d.mem, d.inputs, I d.pos]] = H4 at *
  refine ⟨_, rfl, .str d.name, load_cells v4 rfl, _, rfl, _, gtrI _ _ _, splitB_bool (fun _ => done) fun _ => ?_⟩
  refine ⟨_, rfl, ostr d.impl, load_cells v4 rfl, _, (ostr_like _).len _, _, gtrI _ _ _, splitB_bool (fun _ => done) fun him => ?_⟩
  refine ⟨_, rfl, ostr d.mem, load_cells v4 rfl, _, (ostr_like _).len _, _, gtrI _ _ _, splitB_bool (fun _ => done) fun hme => ?_⟩
  have him : (d.impl.getD []).length ≤ 60 := by simp at him; omega
  have hme : (d.mem.getD []).length ≤ 60 := by simp at hme; omega
  obtain ⟨fs, q1, q2, q3⟩ := hgood.f
  refine ⟨_, rfl, d.fields, load_cells v4 rfl, _, q1.len _, _, gtrI _ _ _, splitB_bool (fun _ => done) fun _ => ?_⟩
  refine ⟨_, rfl, d.inputs, load_cells v4 rfl, ?_⟩
  obtain ⟨r, H5, ⟨⟨q, rfl⟩, k5⟩, hr⟩ := r31 hgood.i g4
  refine ⟨_, _, hr, _, notB _, splitB_bool (fun _ => done) fun _ => ?_⟩
  refine ⟨by kernel_rfl, ?_⟩
  rw [sl0]
  obtain ⟨m5, g5⟩ := k5.num
  have v5 := k5.at v4 (by omega)
  have hs6 : SlOwn (.sl H5.length 0 0 none) (H5 ++ [Blk.arr 1 0 0 []]) [] := ⟨H5.length, rfl, by simp⟩
  have v6 := getElem?_grow v5 [Blk.arr 1 0 0 []]
  have g6 := getElem?_grow g5 [Blk.arr 1 0 0 []]
  have l6 : H5.length ≤ (H5 ++ [Blk.arr 1 0 0 []]).length := by simp
  generalize hH6 : H5 ++ [Blk.arr 1 0 0 []] = H6 at *
  obtain ⟨w7, H7, e7, s7, l7, o7⟩ := appO hs6 d.impl (by simp; omega)
  have v7 := o7 _ _ v6
  have g7 := o7 _ _ g6
  obtain ⟨w8, H8, e8, s8, l8, o8⟩ := appO s7 d.mem (by simp; omega)
  have v8 := o8 _ _ v7
  have g8 := o8 _ _ g7
  refine ⟨_, rfl, ostr d.impl, load_cells v6 rfl, w7, H7, e7, _, rfl, ostr d.mem, load_cells v7 rfl, w8, H8, e8, ?_⟩
  obtain ⟨b9, rfl, hb9⟩ := s8
  refine ⟨_, rfl, trOk_three [0, 1, 3, 4, 6, 8] [(5, 3), (2, 3), (5, 6), (7, 3), (7, 6), (2, 6)] (by kernel_rfl) ?_ ?_ (by simp), ?_⟩
  · simp
    omega
  · intro p hp
    simp at hp
    rcases hp with rfl | rfl | rfl | rfl | rfl | rfl
    · simp [pairOk, ROp.foot, RX.ev, v6, v7]
    · simp [pairOk, ROp.foot, RX.ev, v6, v7]
    · simp [pairOk, ROp.foot, RX.ev, v8, v7]
    · simp [pairOk, ROp.foot, RX.ev, v8, v7]
    · simp [pairOk, ROp.foot, RX.ev, v8, v7]
    · simp [pairOk, ROp.foot, RX.ev, v8, v7]
  simp only [List.nil_append]  at hb9 ⊢
  generalize hL : d.impl.getD [] ++ d.mem.getD [] = L at *
  have hLl : L.length ≤ 120 := by rw [← hL, List.length_append]; omega
  refine ⟨fun n f H9 => ∃ i : Nat, i + n = L.length ∧ f 55 = I ↑i ∧ H8 = H9, ⟨L.length, 0, by simp, rfl, rfl⟩, ?_⟩
  rintro n2 f2 H9 ⟨j, hj, h55, rfl⟩
  rw [h55, lssI, getP_some, splitB_iff]
  refine ⟨fun hlt2 => ?_, fun hlt2 => ?_⟩
  · have hlt2 : j < L.length := by simpa using hlt2
    have hgj : (strs L)[0 + j]? = some (.str L[j]) := by rw [Nat.zero_add]; exact get_map hlt2
    refine ⟨_, iaddr_sl hlt2, .str L[j], load_arr hb9 hgj, _, rfl, _, gtrI _ _ _, splitB_bool (fun _ => done) fun _ => ?_⟩
    rw [add1 (by omega), getP_some]
    exact ⟨n2 - 1, by omega, j + 1, by omega, rfl, rfl⟩
  · refine ⟨_, rfl, d.fields, load_cells v8 rfl, _, q1.len _, ?_⟩
    refine ⟨fun n f H9 => ∃ i : Nat, i + n = fs.length ∧ f 66 = I ↑i ∧ Keep 0 H8 H9, ⟨fs.length, 0, by simp, rfl, Keep.refl g8⟩, ?_⟩
    rintro n3 f3 H9 ⟨j3, hj3, h66, k9⟩
    obtain ⟨m9, g9⟩ := k9.num
    rw [h66, lssI, getP_some, splitB_iff]
    refine ⟨fun hlt3 => ?_, fun hlt3 => ?_⟩
    · have hlt3 : j3 < fs.length := by simpa using hlt3
      have hgx := get_map (f := FieldD.av) hlt3
      have hvx := q2 fs[j3] (List.getElem_mem hlt3)
      have hcf : ∀ z ∈ fs.map FieldD.av, z.cells.length = szOf (some 4) := by
        intro y h
        obtain ⟨z, hz, rfl⟩ := List.mem_map.1 h
        rfl
      refine ⟨_, q1.iaddr hgx hcf, fs[j3].av, rfl, ?_⟩
      show boxP (.agg [.str [], .nils, .str [], I 0]) H9 _
      rw [boxP_agg _ _ _ (by simp [AV.isCell])]
      have e1 := store_cells0 (H := H9 ++ [Blk.cells [.str [], .nils, .str [], I 0]]) (b := H9.length) (n := 4) (cs := [.str [], .nils, .str [], I 0]) (vs := [.str fs[j3].n, fs[j3].args, .str fs[j3].t, I fs[j3].p]) (by simp) rfl rfl (by simp [hvx.cell]; simp [AV.isCell])
      rw [set_last] at e1
      refine ⟨_, e1, ?_⟩
      have h09 : 0 < H9.length := (List.getElem?_eq_some_iff.1 g9).1
      have k10 := Keep.grow g9 [Blk.cells [.str fs[j3].n, fs[j3].args, .str fs[j3].t, I fs[j3].p]]
      have g10 := getElem?_grow g9 [Blk.cells [.str fs[j3].n, fs[j3].args, .str fs[j3].t, I fs[j3].p]]
      have v10 : (H9 ++ [Blk.cells [.str fs[j3].n, fs[j3].args, .str fs[j3].t, I fs[j3].p]])[H9.length]? = some (.cells [.str fs[j3].n, fs[j3].args, .str fs[j3].t, I fs[j3].p]) := by simp
      generalize hH10 : H9 ++ [Blk.cells [.str fs[j3].n, fs[j3].args, .str fs[j3].t, I fs[j3].p]] = H10 at *
      refine ⟨_, load_cells (b := 0) g10 rfl, _, subI _ _, _, store_cells (b := 0) (cs := [I m9]) g10 (by simp) rfl, ?_⟩
      have hb10 : 0 < H10.length := (List.getElem?_eq_some_iff.1 g10).1
      have k11 := k10.trans (Keep.set g10 (IntKind.wrap .i64 (m9 - 5)))
      have v11 : (H10.set 0 (.cells [I (IntKind.wrap .i64 (m9 - 5))]))[H9.length]? = some (.cells [.str fs[j3].n, fs[j3].args, .str fs[j3].t, I fs[j3].p]) := by
        rw [List.getElem?_set_ne (by omega)]; exact v10
      have g11 : (H10.set 0 (.cells [I (IntKind.wrap .i64 (m9 - 5))]))[0]? = some (.cells [I (IntKind.wrap .i64 (m9 - 5))]) := by
        rw [List.getElem?_set_self hb10]
      show getP _ _
      generalize hH11 : H10.set 0 (.cells ([I m9].set 0 (I (IntKind.wrap .i64 (m9 - 5))))) = H11
      have hH11' : H10.set 0 (.cells [I (IntKind.wrap .i64 (m9 - 5))]) = H11 := hH11
      rw [hH11'] at k11 v11 g11
      refine ⟨_, load_cells (b := 0) g11 rfl, _, lssI _ _ _, splitB_bool (fun _ => done) fun _ => ?_⟩
      refine ⟨_, rfl, .str fs[j3].n, load_cells v11 rfl, _, rfl, _, gtrI _ _ _, splitB_bool (fun _ => done) fun _ => ?_⟩
      refine ⟨_, rfl, .str fs[j3].t, load_cells v11 rfl, _, rfl, _, gtrI _ _ _, splitB_bool (fun _ => done) fun _ => ?_⟩
      refine ⟨_, rfl, fs[j3].args, load_cells v11 rfl, ?_⟩
      obtain ⟨r, H12, ⟨⟨q, rfl⟩, k12⟩, hr⟩ := r31 hvx g11
      refine ⟨_, _, hr, _, notB _, splitB_bool (fun _ => done) fun _ => ?_⟩
      have : fs.length < 4611686018427387904 := by simp only [BIG] at q3; omega
      rw [add1 (by omega), getP_some]
      exact ⟨n3 - 1, by omega, j3 + 1, by omega, rfl, k9.trans (k11.trans k12)⟩
    · rw [add1 (by omega), getP_some]
      exact ⟨n - 1, by omega, i + 1, by omega, rfl, m9, g9⟩
end Go.AM.T
