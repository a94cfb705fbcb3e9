/- The plain law of types that overlap. -/
import Derived.Test.YtlpmnnkijdbopaaGreatDoorBc
import Derived.Test.YtlpmnnkijdbopaaGreatDoorBb
import Derived.Sort.Walk0
import Derived.KernelRfl
import Derived.Test.YtlpmnnkijdbopaaGreatDoorBa
import Derived.Test.YtlpmnnkijdbopaaGreatDoorAd
set_option linter.unusedSectionVars false
set_option linter.unnecessarySimpa false
set_option linter.deprecated false
set_option linter.unusedVariables false
set_option linter.unusedSimpArgs false
namespace Go.AM.T
set_option linter.unusedVariables false
set_option linter.unusedSimpArgs false

/-! ### The order of texts -/
theorem less_irrefl (a : Str) : Op.bytesLess a a = false := by
  rw [Go.Proofs.bytesLess_eq]; simp [List.lt_irrefl]
theorem less_trans {a b c : Str} (h : Op.bytesLess a b = true) (k : Op.bytesLess b c = true) : Op.bytesLess a c = true := by
  rw [Go.Proofs.bytesLess_eq] at *; simp only [decide_eq_true_eq] at *; exact List.lt_trans h k
theorem less_total {a b : Str} (h : Op.bytesLess a b = false) (hn : a ≠ b) : Op.bytesLess b a = true := by
  rw [Go.Proofs.bytesLess_eq] at *
  simp only [decide_eq_true_eq, decide_eq_false_iff_not] at *
  exact (List.le_iff_lt_or_eq.1 (List.not_lt.1 h)).resolve_right fun e => hn e.symm
/-- 'a' does not come behind 'b'. -/
def NB (a b : Str) : Prop := Op.bytesLess b a = false
theorem nb_trans {a b c : Str} (h : NB a b) (k : NB b c) : NB a c := by
  unfold NB at *
  rw [Go.Proofs.bytesLess_eq] at *
  simp only [decide_eq_false_iff_not] at *
  exact List.not_lt.2 (List.le_trans (List.not_lt.1 h) (List.not_lt.1 k))
theorem mem_insS (x y : Str) : ∀ l, y ∈ insS x l ↔ y = x ∨ y ∈ l
  | [] => by simp [insS]
  | z :: r => by
    unfold insS
    split
    · simp only [List.mem_cons, mem_insS x y r]
      constructor
      · rintro (h | h | h) <;> simp_all
      · rintro (h | h | h) <;> simp_all
    · simp
theorem mem_isort (y : Str) : ∀ l, y ∈ isort l ↔ y ∈ l
  | [] => by simp [isort]
  | x :: r => by simp [isort, mem_insS, mem_isort y r]
theorem insS_sorted (x : Str) : ∀ l, l.Pairwise NB → (insS x l).Pairwise NB
  | [], _ => by simp [insS]
  | y :: r, h => by
    rw [List.pairwise_cons] at h
    unfold insS
    split
    · rename_i hlt
      refine List.pairwise_cons.2 ⟨fun z hz => ?_, insS_sorted x r h.2⟩
      rcases (mem_insS x z r).1 hz with rfl | hz
      · unfold NB
        cases hc : Op.bytesLess z y with
        | false => rfl
        | true => have := less_trans hlt hc; rw [less_irrefl] at this; cases this
      · exact h.1 z hz
    · rename_i hn
      have hxy : NB x y := by simpa [NB] using hn
      refine List.pairwise_cons.2 ⟨fun z hz => ?_, List.pairwise_cons.2 h⟩
      rcases List.mem_cons.1 hz with rfl | hz
      · exact hxy
      · exact nb_trans hxy (h.1 z hz)
theorem isort_sorted : ∀ l, (isort l).Pairwise NB
  | [] => .nil
  | x :: r => insS_sorted x _ (isort_sorted r)
theorem mem_compL (y : Str) : ∀ l, y ∈ compL l ↔ y ∈ l
  | [] => Iff.rfl
  | [x] => Iff.rfl
  | x :: z :: r => by
    have := mem_compL y (z :: r)
    unfold compL
    split
    · rename_i h
      have : x = z := by simpa using h
      subst this
      simp_all
    · rw [List.mem_cons, this]; simp
theorem compL_rising : ∀ l, l.Pairwise NB → (compL l).Pairwise fun a b => Op.bytesLess a b = true
  | [], _ => .nil
  | [x], _ => by simp [compL]
  | x :: z :: r, h => by
    rw [List.pairwise_cons] at h
    have ih := compL_rising (z :: r) h.2
    unfold compL
    split
    · exact ih
    · rename_i hn
      have hn : x ≠ z := by simpa using hn
      refine List.pairwise_cons.2 ⟨fun y hy => ?_, ih⟩
      have hy := (mem_compL y (z :: r)).1 hy
      rcases List.mem_cons.1 hy with rfl | hy
      · exact less_total (by have := h.1 y (by simp); exact this) (Ne.symm hn)
      · have h1 : Op.bytesLess x z = true := less_total (h.1 z (by simp)) (Ne.symm hn)
        cases hc : Op.bytesLess x y with
        | true => rfl
        | false =>
          rcases Classical.em (y = x) with e | e
          · subst e
            have := (List.pairwise_cons.1 h.2).1 y hy
            unfold NB at this
            rw [h1] at this; cases this
          · have h2 := less_total hc fun q => e q.symm
            have h3 := less_trans h2 h1
            have := (List.pairwise_cons.1 h.2).1 y hy
            unfold NB at this
            rw [h3] at this; cases this
theorem possR_getD (l : List Str) : (possR l).getD [] = compL (isort l) := by
  unfold possR
  split
  · rename_i h; subst h; rfl
  · rfl
theorem mem_poss {t : Tab} {o : Option (List Str)} {n s : Str} : s ∈ (t.poss o n).getD [] ↔ s ∈ t.gather o n := by
  rw [Tab.poss, possR_getD, mem_compL, mem_isort]
theorem poss_rising (t : Tab) (o : Option (List Str)) (n : Str) : ((t.poss o n).getD []).Pairwise fun a b => Op.bytesLess a b = true := by
  rw [Tab.poss, possR_getD]
  exact compL_rising _ (isort_sorted _)

/-! ### Names lead to nothing -/
theorem name_last {s : Str} (h : nameB s = true) : nonNullB s = false := by
  cases s with
  | nil => cases h
  | cons c r =>
    simp only [nameB, Bool.and_eq_true] at h
    have h2 := h.2
    cases hs : nonNullB (c :: r) with
    | false => rfl
    | true =>
      simp only [nonNullB, sufB, Bool.and_eq_true, decide_eq_true_eq, beq_iff_eq] at hs
      have : (33 : UInt8) ∈ c :: r := List.mem_of_mem_drop (hs.2 ▸ List.mem_singleton.2 rfl)
      unfold nameRest at h2
      have := List.all_eq_true.1 h2 _ this
      revert this; decide
theorem name_first {s : Str} (h : nameB s = true) : isList s = false := by
  have hn := name_last h
  cases s with
  | nil => cases h
  | cons c r =>
    simp only [nameB, Bool.and_eq_true] at h
    simp only [isList, nullableS, trimS]
    rw [show sufB (c :: r) [33] = false from hn]
    cases hs : preB (c :: r) [91] with
    | false => simp [hs]
    | true =>
      simp [preB] at hs
      subst hs
      have := h.1
      exfalso; revert this; decide
/-! ### The table's own -/
theorem fold_keys (P : Str → TDef → Prop) : ∀ (l : List TDef) (s : Tab × List Str), (∀ p ∈ s.1, P p.1 p.2) → (∀ d ∈ l, P d.name d) → ∀ p ∈ (l.foldl step s).1, P p.1 p.2
  | [], s, hs, _ => hs
  | d :: r, s, hs, hl => by
    refine fold_keys P r (step s d) ?_ fun x hx => hl x (by simp [hx])
    unfold step
    split
    · exact hs
    · intro p hp
      rcases List.mem_append.1 hp with hp | hp
      · exact hs p hp
      · simp at hp; subst hp; exact hl d (by simp)
theorem look_mem {t : Tab} {n : Str} {d : TDef} (h : t.look n = some d) : (n, d) ∈ t := by
  unfold Tab.look at h
  obtain ⟨p, h1, rfl⟩ := Option.map_eq_some_iff.1 h
  have := List.find?_some h1
  have e : p.1 = n := by simpa using this
  subst e
  exact List.mem_of_find?_eq_some h1
theorem kind_name {l : List TDef} (hl : ∀ d ∈ l, nameB d.name = true) {s : Str} (h : (newT l).1.kind s = 2) : nameB s = true := by
  have hk : ∀ p ∈ (newT l).1, nameB p.1 = true ∨ p.2.kind = 1 := by
    refine fold_keys (fun n d => nameB n = true ∨ d.kind = 1) l (fiveT, []) ?_ fun d hd => .inl (hl d hd)
    intro p hp
    obtain ⟨s, _, rfl⟩ := List.mem_map.1 hp
    exact .inr rfl
  unfold Tab.kind Tab.get at h
  cases e : (newT l).1.look s with
  | none => rw [e] at h; cases h
  | some d =>
    rw [e] at h
    rcases hk _ (look_mem e) with h1 | h1
    · exact h1
    · simp only [Option.getD_some] at h
      simp only at h1
      rw [h1] at h; cases h
theorem is_kind {t : Tab} {n : Str} {l : List Int} : t.is n l = true ↔ t.kind n ≠ 0 ∧ t.kind n ∈ l := by
  simp [Tab.is]
theorem gather_kind {t : Tab} {o : Option (List Str)} {a s : Str} (h : s ∈ t.gather o a) : t.kind s = 2 := by
  unfold Tab.gather at h
  split at h
  · rename_i h1; simp at h; subst h; exact h1
  · split at h
    · have := (List.mem_filter.1 h).2
      simp only [Bool.and_eq_true] at this
      simpa using (is_kind.1 this.1).2
    · split at h
      · have := (List.mem_filter.1 h).2
        simpa using (is_kind.1 this).2
      · cases h
theorem gather_fits {t : Tab} {o : Option (List Str)} {a s : Str} (h : s ∈ t.gather o a) (ha : nameB a = true) (hs : nameB s = true) : t.fits s a = true := by
  rw [Tab.fits]
  simp only [name_last ha, name_last hs, name_first ha, name_first hs, Bool.false_eq_true, dite_false, if_false]
  by_cases e : (s == a) = true
  · simp [e]
  · simp only [e, Bool.false_eq_true, if_false]
    have hk := gather_kind h
    unfold Tab.gather at h
    split at h
    · simp at h; subst h; simp at e
    · rename_i n2
      split at h
      · rename_i h3
        have := (List.mem_filter.1 h).2
        simp only [Bool.and_eq_true] at this
        have i3 : t.is a [3] = true := is_kind.2 ⟨by rw [h3]; decide, by rw [h3]; simp⟩
        have i2 : t.is s [2, 3] = true := is_kind.2 ⟨by rw [hk]; decide, by rw [hk]; simp⟩
        rw [if_pos i3, i2, Bool.true_and]; exact this.2
      · rename_i n3
        split at h
        · rename_i h4
          have i3 : ¬ t.is a [3] = true := fun q => n3 (by simpa using (is_kind.1 q).2)
          have i4 : t.is a [4] = true := is_kind.2 ⟨by rw [h4]; decide, by rw [h4]; simp⟩
          have i2 : t.is s [2] = true := is_kind.2 ⟨by rw [hk]; decide, by rw [hk]; simp⟩
          rw [if_neg i3, i4, i2, Bool.true_and, Bool.true_and]
          simpa using (List.mem_filter.1 h).1
        · cases h
theorem gather_own {t : Tab} {o : Option (List Str)} {s : Str} (h : t.kind s = 2) : (t.poss o s).getD [] = [s] := by
  rw [Tab.poss, possR_getD, Tab.gather, if_pos h]; rfl
theorem gather_comp {t : Tab} {o : Option (List Str)} {a s : Str} (h : s ∈ t.gather o a) : t.comp a = true := by
  unfold Tab.gather at h
  unfold Tab.comp
  split at h
  · rename_i h1; exact is_kind.2 ⟨by rw [h1]; decide, by rw [h1]; simp⟩
  · split at h
    · rename_i h1; exact is_kind.2 ⟨by rw [h1]; decide, by rw [h1]; simp⟩
    · split at h
      · rename_i h1; exact is_kind.2 ⟨by rw [h1]; decide, by rw [h1]; simp⟩
      · cases h
theorem overlap_sym (t : Tab) (o : Option (List Str)) (a b : Str) : t.overlap o a b = t.overlap o b a := by
  unfold Tab.overlap
  rw [Bool.eq_iff_iff]
  simp only [List.any_eq_true, List.contains_iff_mem]
  exact ⟨fun ⟨x, h1, h2⟩ => ⟨x, h2, h1⟩, fun ⟨x, h1, h2⟩ => ⟨x, h2, h1⟩⟩
end Go.AM.T

/- The fixed fact holds: run by the kernel. -/
namespace Go.AM.T
set_option maxRecDepth 1000000
theorem awake_run : callF env 10000 3 [] [] = some (.bool true, []) := by kernel_rfl
end Go.AM.T

/- The statement on overlaps: the A-machine answers true. -/
namespace Go.AM.T
set_option linter.unusedVariables false
set_option linter.unusedSimpArgs false
set_option maxRecDepth 100000

theorem callF_awake (H : Heap) : Ret env 3 [] H (.bool true) H := by
  have h := awake_run
  have e : callF env 10000 3 [] H = some (.bool true, H) := by
    have hf : env.fn 3 = some c3 := rfl
    have hi : c3.iso = true := rfl
    have hp : env.prim 3 = none := rfl
    rw [callF] at h ⊢
    simp only [hp, hf, hi, if_true] at h ⊢
    rw [show pubL false 9999 H [] = some [] from rfl, Option.bind_some]
    rw [show pubL false 9999 [] [] = some [] from rfl, Option.bind_some] at h
    obtain ⟨p, h1, h2⟩ := Option.bind_eq_some_iff.1 h
    rw [h1, Option.bind_some]
    obtain ⟨v, h3, h4⟩ := Option.map_eq_some_iff.1 h2
    injection h4 with h4
    rw [h3, Option.map_some, h4]
  exact Ret.of e
theorem kind_key {l : List TDef} {P : Str → Prop} (hl : ∀ d ∈ l, P d.name) {s : Str} (h : (newT l).1.kind s = 2) : P s := by
  have hk : ∀ p ∈ (newT l).1, P p.1 ∨ p.2.kind = 1 := by
    refine fold_keys (fun n d => P n ∨ d.kind = 1) l (fiveT, []) ?_ fun d hd => .inl (hl d hd)
    intro p hp
    obtain ⟨s, _, rfl⟩ := List.mem_map.1 hp
    exact .inr rfl
  unfold Tab.kind Tab.get at h
  cases e : (newT l).1.look s with
  | none => rw [e] at h; cases h
  | some d =>
    rw [e] at h
    rcases hk _ (look_mem e) with h1 | h1
    · exact h1
    · simp only [Option.getD_some] at h
      simp only at h1
      rw [h1] at h; cases h
theorem any_take {α : Type} (p : α → Bool) {l : List α} {i : Nat} {x : α} (h : l[i]? = some x) : (l.take (i + 1)).any p = ((l.take i).any p || p x) := by
  rw [List.take_succ, h, List.any_append]; simp
theorem mem_gather_of {t : Tab} {o : Option (List Str)} {n s : Str} {i : Nat} (h : ((t.poss o n).getD [])[i]? = some s) : s ∈ t.gather o n := mem_poss.1 (List.mem_of_getElem? h)
end Go.AM.T
