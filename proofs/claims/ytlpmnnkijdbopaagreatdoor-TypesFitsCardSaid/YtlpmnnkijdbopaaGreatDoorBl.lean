/- Contracts: the document's reading of texts, byte by byte. -/
import Derived.Test.YtlpmnnkijdbopaaGreatDoorBb
import Derived.Test.YtlpmnnkijdbopaaGreatDoorBj
import Derived.KernelRfl
import Derived.Test.YtlpmnnkijdbopaaGreatDoorBc
import Derived.Test.YtlpmnnkijdbopaaGreatDoorBk
import Derived.Test.YtlpmnnkijdbopaaGreatDoorBd
set_option linter.unusedSectionVars false
set_option linter.unnecessarySimpa false
set_option linter.deprecated false
set_option linter.unusedVariables false
set_option linter.unusedSimpArgs false
namespace Go.AM.T
set_option linter.unusedVariables false
set_option linter.unusedSimpArgs false
set_option maxRecDepth 100000

theorem addW (a b : Int) : binop .add (.int .i64 a) (.int .i64 b) = some (I (IntKind.wrap .i64 (a + b))) := by simp [binop]
theorem subW (a b : Int) : binop .sub (.int .i64 a) (.int .i64 b) = some (I (IntKind.wrap .i64 (a - b))) := by simp [binop]
theorem mulW (a b : Int) : binop .mul (.int .i64 a) (.int .i64 b) = some (I (IntKind.wrap .i64 (a * b))) := by simp [binop]
theorem addK {i k : Nat} (h : i + k < 4611686018427387904) : binop .add (.int .i64 ↑i) (.int .i64 ↑k) = some (I ↑(i + k)) := by
  rw [addW, wrap64 (by omega) (by omega)]; simp
theorem add2 {i : Nat} (h : i + 2 < 4611686018427387904) : binop .add (.int .i64 ↑i) (.int .i64 2) = some (I ↑(i + 2)) := addK (k := 2) h
theorem add3 {i : Nat} (h : i + 3 < 4611686018427387904) : binop .add (.int .i64 ↑i) (.int .i64 3) = some (I ↑(i + 3)) := addK (k := 3) h
theorem add4 {i : Nat} (h : i + 4 < 4611686018427387904) : binop .add (.int .i64 ↑i) (.int .i64 4) = some (I ↑(i + 4)) := addK (k := 4) h
theorem add1' {i : Nat} (h : i + 1 < 4611686018427387904) : binop .add (.int .i64 ↑i) (.int .i64 1) = some (I ↑(i + 1)) := addK (k := 1) h
/-- The byte at a place, or -1. -/
def oneZ (s : Str) (i : Nat) : Int := match s[i]? with | some c => c.toNat | none => -1
theorem oneZ_lo (s : Str) (i : Nat) : -1 ≤ oneZ s i := by unfold oneZ; split <;> omega
theorem oneZ_hi (s : Str) (i : Nat) : oneZ s i < 256 := by
  unfold oneZ; split
  · rename_i c _; have := c.toNat_lt; omega
  · omega
theorem oneZ_in {s : Str} {i : Nat} (h : 0 ≤ oneZ s i) : i < s.length := by
  unfold oneZ at h
  split at h
  · rename_i c hc; exact (List.getElem?_eq_some_iff.1 hc).1
  · omega
theorem r100 (s : Str) (i : Nat) (H : Heap) : Ret env 100 [.str s, I ↑i] H (I (oneZ s i)) H := by
  refine Ret.isoX (f := c100) rfl rfl rfl (PubL.plain rfl) (Eq.mpr (x100 _ _ _ _ _) ?_)
  refine ⟨_, rfl, _, geqI _ _ _, splitB_bool (fun h => ?_) fun h => ?_⟩
  · have h : s.length ≤ i := by simpa using h
    rw [pub_int, oneZ, List.getElem?_eq_none h]
  · have h : i < s.length := by simpa using h
    have hg := List.getElem?_eq_getElem h
    refine ⟨_, index_str hg, _, rfl, ?_⟩
    have := s[i].toNat_lt
    show Pub _ _ _ _
    rw [pub_int, oneZ, hg, wrap64 (by omega) (by omega)]
theorem k100 (s : Str) (i : Nat) (H : Heap) (K) : callP env 100 [.str s, I ↑i] H K = K (I (oneZ s i)) H := callP_eq (r100 s i H) K
def goesB (s : Str) (i : Nat) : Bool := decide (128 ≤ oneZ s i) && decide (oneZ s i < 192)
theorem goesB_in {s : Str} {i : Nat} (h : goesB s i = true) : i < s.length := by
  simp only [goesB, Bool.and_eq_true, decide_eq_true_eq] at h
  exact oneZ_in (by omega)
theorem r101 (s : Str) (i : Nat) (H : Heap) : Ret env 101 [.str s, I ↑i] H (.bool (goesB s i)) H := by
  refine Ret.isoX (f := c101) rfl rfl rfl (PubL.plain rfl) (Eq.mpr (x101 _ _ _ _ _) ?_)
  rw [k100]
  refine ⟨_, geqI _ _ _, splitB_bool (fun h => ?_) fun h => ?_⟩
  · rw [k100]
    rw [lssI, getP_some, pub_bool, goesB, h, Bool.true_and]
  · rw [pub_bool, goesB, h, Bool.false_and]
theorem k101 (s : Str) (i : Nat) (H : Heap) (K) : callP env 101 [.str s, I ↑i] H K = K (.bool (goesB s i)) H := callP_eq (r101 s i H) K
theorem r103 (s : Str) (hs : Short s) (i : Nat) (hi : i ≤ s.length) (H : Heap) : ∃ v', (∃ j : Nat, v' = I ↑j ∧ i ≤ j ∧ j ≤ s.length) ∧ Ret env 103 [.str s, I ↑i] H v' H := by
  refine Ret.isoQ (f := c103) rfl rfl rfl (PubL.plain rfl) (Eq.mpr (x103 _ _ _ _ _) ?_)
  have fin : ∀ {j : Nat} {H : Heap} {fr}, i ≤ j → j ≤ s.length → ∃ v, Pub fr H (I ↑j) v ∧ ∃ j : Nat, v = I ↑j ∧ i ≤ j ∧ j ≤ s.length := fun {j _ _} h1 h2 => ⟨_, Pub.scalar rfl, j, rfl, h1, h2⟩
  refine ⟨fun n f H => ∃ j : Nat, j + n = s.length ∧ f 1 = I ↑j ∧ i ≤ j, ⟨s.length - i, i, by omega, rfl, Nat.le_refl _⟩, ?_⟩
  rintro n f H ⟨j, hj, h1, hij⟩
  rw [h1]
  refine ⟨_, rfl, _, lssI _ _ _, splitB_bool (fun h => ?_) fun h => fin hij (by omega)⟩
  have h : j < s.length := by simpa using h
  rw [index_str (List.getElem?_eq_getElem h), getP_some, k34]
  refine splitB_bool (fun _ => ?_) fun _ => fin hij (by omega)
  rw [add1 (by omega), getP_some]
  exact ⟨n - 1, by omega, j + 1, by omega, rfl, by omega⟩
theorem r105 (s : Str) (hs : Short s) (H : Heap) : ∃ v', (∃ j : Nat, v' = I ↑j ∧ j ≤ s.length) ∧ Ret env 105 [.str s] H v' H := by
  refine Ret.isoQ (f := c105) rfl rfl rfl (PubL.plain rfl) (Eq.mpr (x105 _ _ _ _) ?_)
  have fin : ∀ {j : Nat} {H : Heap} {fr}, j ≤ s.length → ∃ v, Pub fr H (I ↑j) v ∧ ∃ j : Nat, v = I ↑j ∧ j ≤ s.length := fun {j _ _} h2 => ⟨_, Pub.scalar rfl, j, rfl, h2⟩
  refine ⟨fun n f H => ∃ j : Nat, j + n = s.length ∧ f 3 = I ↑j, ⟨s.length, 0, by simp, rfl⟩, ?_⟩
  rintro n f H ⟨j, hj, h1⟩
  rw [h1]
  refine ⟨_, rfl, _, lssI _ _ _, splitB_bool (fun h => ?_) fun h => fin (by omega)⟩
  have h : j < s.length := by simpa using h
  have hg := List.getElem?_eq_getElem h
  refine ⟨_, index_str hg, _, eqlI _ _ _, splitB_bool (fun _ => ?_) fun _ => ?_⟩
  · rw [add1 (by omega), getP_some]
    exact ⟨n - 1, by omega, j + 1, by omega, rfl⟩
  · refine ⟨_, index_str hg, _, eqlI _ _ _, splitB_bool (fun _ => ?_) fun _ => fin (by omega)⟩
    rw [add1 (by omega), getP_some]
    exact ⟨n - 1, by omega, j + 1, by omega, rfl⟩
/-- What a hexadecimal digit comes to: -1 for what is none. -/
theorem r106 (k : Int) (H : Heap) : ∃ v', (∃ r : Int, v' = I r ∧ (k < 0 → r < 0)) ∧ Ret env 106 [I k] H v' H := by
  refine Ret.isoQ (f := c106) rfl rfl rfl (PubL.plain rfl) (Eq.mpr (x106 _ _ _ _) ?_)
  have fin : ∀ {r : Int} {H : Heap} {fr}, (k < 0 → r < 0) → ∃ v, Pub fr H (I r) v ∧ ∃ r : Int, v = I r ∧ (k < 0 → r < 0) := fun {r _ _} h => ⟨_, Pub.scalar rfl, r, rfl, h⟩
  simp only [geqI, leqI, subW, addW, getP_some, splitB_iff, decide_eq_true_eq, decide_eq_false_iff_not]
  refine ⟨fun h1 => ⟨fun h2 => ?_, fun h2 => ⟨fun h3 => ⟨fun h4 => ?_, fun h4 => ⟨fun h5 => ⟨fun h6 => ?_, fun h6 => ?_⟩, fun h5 => ?_⟩⟩, fun h3 => ⟨fun h5 => ⟨fun h6 => ?_, fun h6 => ?_⟩, fun h5 => ?_⟩⟩⟩, fun h1 => ⟨fun h3 => ⟨fun h4 => ?_, fun h4 => ⟨fun h5 => ⟨fun h6 => ?_, fun h6 => ?_⟩, fun h5 => ?_⟩⟩, fun h3 => ⟨fun h5 => ⟨fun h6 => ?_, fun h6 => ?_⟩, fun h5 => ?_⟩⟩⟩ <;> exact ⟨_, Pub.scalar rfl, _, rfl, by omega⟩
theorem slice_mid {s : Str} {i j : Nat} (h1 : i ≤ j) (h2 : j ≤ s.length) : sliceA 0 (.str s) (some (.int .i64 ↑i)) (some (.int .i64 ↑j)) none = some (.str ((s.take j).drop i)) := by
  simp [sliceA, evNat, h1, h2]
theorem r96 (s : Str) (hs : Short s) (i : Nat) (hi : i ≤ s.length + 10) (hl : s.length ≤ 5000) (H : Heap) : ∃ v', (∃ q : Bool, v' = .bool q ∧ (q = true → i + 3 ≤ s.length)) ∧ Ret env 96 [.str s, I ↑i] H v' H := by
  refine Ret.isoQ (f := c96) rfl rfl rfl (PubL.plain rfl) (Eq.mpr (x96 _ _ _ _ _) ?_)
  rw [add3 (by omega), getP_some]
  refine ⟨_, rfl, _, leqI _ _ _, splitB_bool (fun h => ?_) fun h => ⟨_, Pub.scalar rfl, false, rfl, by simp⟩⟩
  have h : i + 3 ≤ s.length := by have : ((i + 3 : Nat) : Int) ≤ s.length := by simpa using h
                                  omega
  exact ⟨_, rfl, _, slice_mid (by omega) h, _, eqlS _ _, _, Pub.scalar rfl, _, rfl, fun _ => h⟩
end Go.AM.T

/- Contracts: runes. -/
namespace Go.AM
set_option linter.unusedVariables false
theorem Ret.isoW {E : Env} {g : Nat} {f : RF} {args args' : List AV} {H : Heap} (hp : E.prim g = none) (hf : E.fn g = some f) (hi : f.iso = true) (ha : PubL H args args') {Q : AV → Prop}
    (h : W E f.body (fnPost f.res fun v0 H1 => ∃ v, Pub (!AV.noIdsL args) H1 v0 v ∧ Q v) (args' ++ List.replicate (f.nt - args'.length) undef) []) : ∃ v, Q v ∧ Ret E g args H v H := by
  obtain ⟨out, s', H1, ⟨k, hk⟩, h⟩ := W_sound h
  obtain ⟨hno, v0, hr, v, ⟨k2, h2⟩, hQ⟩ := fnPost_ok h
  obtain ⟨k1, h1⟩ := ha
  refine ⟨v, hQ, max k (max k1 k2) + 1, fun k' hk' => ?_⟩
  obtain ⟨i, rfl⟩ : ∃ i, k' = i + 1 := ⟨k' - 1, by omega⟩
  obtain ⟨vs, h3, h4⟩ := Option.map_eq_some_iff.1 hr
  subst h4
  simp only [callF, hp, hf, hi, if_true, h1 i (by omega), Option.bind_some, bodyF, hk i (by omega)]
  cases out with
  | exit id => exact absurd rfl (hno id)
  | normal => simp only [h3, Option.map_some, Option.bind_some, h2 i (by omega)]
  | ret => simp only [h3, Option.map_some, Option.bind_some, h2 i (by omega)]
/-- A piece, then the rest: the heap is the same behind it. -/
theorem stepP {E : Env} {a b : RC} {Q : Post} {s : List AV} {H : Heap} (N : (Nat → AV) → Prop) (ha : X E a (fun out s' H' => match out with | .normal => H' = H ∧ N (fun i => s'.getD i undef) | .ret => Q .ret s' H' | .exit _ => False) s H)
    (hb : ∀ s', Fr (writes a) s s' → N (fun i => s'.getD i undef) → W E b Q s' H) : W E (.seq a b) Q s H := by
  show W E a (fun out s' H' => match out with | .normal => W E b Q s' H' | out => Q out s' H') s H
  refine W_mono (fun out s' H' h => ?_) (W_fr (ws := writes a) (s0 := s) (fun d h => h) (Fr.refl _ _) (X_sound ha))
  cases out with
  | normal => obtain ⟨⟨h1, h2⟩, h3⟩ := h; subst h1; exact hb s' h3 h2
  | ret => exact h.1
  | exit id => exact h.1.elim
theorem expand {s : List AV} {n : Nat} (h : s.length = n) : s = (List.range n).map fun i => s.getD i undef := by
  refine List.ext_getElem (by simp [h]) fun i h1 h2 => ?_
  simp [List.getD_eq_getElem?_getD, h1]
end Go.AM
namespace Go.AM.T
set_option linter.unusedVariables false
set_option linter.unusedSimpArgs false
set_option maxRecDepth 100000

def RunOk (s : Str) (i : Nat) (v : AV) : Prop := ∃ (r : Int) (n : Nat), v = .tup [I r, I ↑n] ∧ (n = 0 ∨ (1 ≤ n ∧ n ≤ 4 ∧ i + n ≤ s.length))
theorem r94 (s : Str) (i : Nat) (hi : i ≤ 10000) (H : Heap) : ∃ v', RunOk s i v' ∧ Ret env 94 [.str s, I ↑i] H v' H := by
  refine Ret.isoW (f := c94) rfl rfl rfl (PubL.plain rfl) ?_
  rw [c94_cut]
  have a1 := add1' (i := i) (by omega)
  have a2 := add2 (i := i) (by omega)
  have a3 := add3 (i := i) (by omega)
  have fin : ∀ {r : Int} {n : Nat} {fr} {H : Heap}, (n = 0 ∨ (1 ≤ n ∧ n ≤ 4 ∧ i + n ≤ s.length)) → ∃ v, Pub fr H (.tup [I r, I ↑n]) v ∧ RunOk s i v := fun {r n _ _} h => ⟨_, Pub.scalars2, r, n, rfl, h⟩
  have go : ∀ {a b : RC} {Q : Post} (Pre N : (Nat → AV) → Prop) (S : List AV), S.length = 141 → (∀ g : Nat → AV, Pre g → X env a (fun out s' H' => match out with | .normal => H' = [] ∧ N (fun i => s'.getD i undef) | .ret => Q .ret s' H' | .exit _ => False) ((List.range 141).map g) []) →
      Pre (fun i => S.getD i undef) → (∀ S', Fr (writes a) S S' → N (fun i => S'.getD i undef) → W env b Q S' []) → W env (.seq a b) Q S [] := by
    intro a b Q Pre N S hl hX hp hb
    refine stepP N ?_ hb
    have := hX (fun i => S.getD i undef) hp
    rw [← expand hl] at this
    exact this
  let P2 : (Nat → AV) → Prop := fun g => g 0 = .str s ∧ g 1 = I ↑i
  let P3 : (Nat → AV) → Prop := fun g => g 0 = .str s ∧ g 1 = I ↑i ∧ g 6 = I (oneZ s i)
  have up2 : ∀ {ws : List Nat} {S S' : List AV}, P2 (fun i => S.getD i undef) → Fr ws S S' → 0 ∉ ws → 1 ∉ ws → P2 (fun i => S'.getD i undef) := fun h f h0 h1 => ⟨(f.get 0 h0).trans h.1, (f.get 1 h1).trans h.2⟩
  have up3 : ∀ {ws : List Nat} {S S' : List AV}, P3 (fun i => S.getD i undef) → Fr ws S S' → 0 ∉ ws → 1 ∉ ws → 6 ∉ ws → P3 (fun i => S'.getD i undef) := fun h f h0 h1 h6 => ⟨(f.get 0 h0).trans h.1, (f.get 1 h1).trans h.2.1, (f.get 6 h6).trans h.2.2⟩
  refine go P2 (fun _ => True) _ rfl (fun g _ => Eq.mpr (y94_0 _ _ _ _) ⟨rfl, trivial⟩) ⟨rfl, rfl⟩ fun S1 f1 _ => ?_
  have q1 : P2 (fun i => S1.getD i undef) := up2 (S := [AV.str s, I ↑i] ++ List.replicate (c94.nt - [AV.str s, I ↑i].length) undef) ⟨rfl, rfl⟩ f1 (by decide) (by decide)
  have l1 : S1.length = 141 := f1.len
  refine go P2 (fun g => g 6 = I (oneZ s i)) _ l1 (fun g hg => Eq.mpr (y94_1 _ _ _ _) ?_) q1 fun S2 f2 q6 => ?_
  · rw [hg.1, hg.2, k100]
    exact ⟨rfl, rfl⟩
  have q2 := up2 q1 f2 (by decide) (by decide)
  have q2 : P3 (fun i => S2.getD i undef) := ⟨q2.1, q2.2, q6⟩
  have l2 : S2.length = 141 := f2.len.trans l1
  refine go P3 (fun _ => ¬ oneZ s i < 0) _ l2 (fun g hg => Eq.mpr (y94_2 _ _ _ _) ?_) q2 fun S3 f3 hneg => ?_
  · rw [hg.2.2]
    exact ⟨_, lssI _ _ _, splitB_bool (fun h => fin (n := 0) (.inl rfl)) fun h => ⟨rfl, by simpa using h⟩⟩
  have hin : i < s.length := oneZ_in (by omega)
  have q3 := up3 q2 f3 (by decide) (by decide) (by decide)
  have l3 : S3.length = 141 := f3.len.trans l2
  refine go P3 (fun _ => True) _ l3 (fun g hg => Eq.mpr (y94_3 _ _ _ _) ?_) q3 fun S4 f4 _ => ?_
  · rw [hg.2.2]
    exact ⟨_, lssI _ _ _, splitB_bool (fun h => fin (n := 1) (.inr ⟨by omega, by omega, by omega⟩)) fun h => ⟨rfl, trivial⟩⟩
  have q4 := up3 q3 f4 (by decide) (by decide) (by decide)
  have l4 : S4.length = 141 := f4.len.trans l3
  refine go P3 (fun _ => True) _ l4 (fun g hg => Eq.mpr (y94_4 _ _ _ _) ?_) q4 fun S5 f5 _ => ?_
  · simp only [hg.1, hg.2.1, hg.2.2, k100, k101, a1, a2, a3, addW, subW, mulW, lssI, geqI, leqI, gtrI, getP_some, splitB_iff]
    repeat' (first | apply And.intro | intro _)
    all_goals first
      | rfl
      | trivial
      | exact fin (n := 2) (.inr ⟨by omega, by omega, by have := goesB_in ‹goesB s (i + 1) = true›; omega⟩)
  have q5 := up3 q4 f5 (by decide) (by decide) (by decide)
  have l5 : S5.length = 141 := f5.len.trans l4
  refine go P3 (fun _ => True) _ l5 (fun g hg => Eq.mpr (y94_5 _ _ _ _) ?_) q5 fun S6 f6 _ => ?_
  · simp only [hg.1, hg.2.1, hg.2.2, k100, k101, a1, a2, a3, addW, subW, mulW, lssI, geqI, leqI, gtrI, getP_some, splitB_iff]
    repeat' (first | apply And.intro | intro _)
    all_goals first
      | rfl
      | trivial
      | exact fin (n := 3) (.inr ⟨by omega, by omega, by have := goesB_in ‹goesB s (i + 2) = true›; omega⟩)
  have q6' := up3 q5 f6 (by decide) (by decide) (by decide)
  have l6 : S6.length = 141 := f6.len.trans l5
  refine go P3 (fun _ => True) _ l6 (fun g hg => Eq.mpr (y94_6 _ _ _ _) ?_) q6' fun S7 f7 _ => ?_
  · simp only [hg.1, hg.2.1, hg.2.2, k100, k101, a1, a2, a3, addW, subW, mulW, lssI, geqI, leqI, gtrI, getP_some, splitB_iff]
    repeat' (first | apply And.intro | intro _)
    all_goals first
      | rfl
      | trivial
      | exact fin (n := 4) (.inr ⟨by omega, by omega, by have := goesB_in ‹goesB s (i + 3) = true›; omega⟩)
  have l7 : S7.length = 141 := f7.len.trans l6
  refine go (fun _ => True) (fun g => g 4 = I 0 ∧ g 5 = I 0) _ l7 (fun g _ => Eq.mpr (y94_7 _ _ _ _) ⟨rfl, rfl, rfl⟩) trivial fun S8 f8 q8 => ?_
  show ∃ v, Pub _ [] (packA [S8.getD 4 undef, S8.getD 5 undef]) v ∧ _
  have e4 : S8.getD 4 undef = I 0 := q8.1
  have e5 : S8.getD 5 undef = I 0 := q8.2
  rw [e4, e5]
  exact fin (n := 0) (.inl rfl)
end Go.AM.T

/- Contracts: escapes and strings. -/
namespace Go.AM.T
set_option linter.unusedVariables false
set_option linter.unusedSimpArgs false
set_option maxRecDepth 100000

theorem quoW (a b : Int) (hb : b ≠ 0) : binop .quo (.int .i64 a) (.int .i64 b) = some (I (IntKind.wrap .i64 (a.tdiv b))) := by simp [binop, hb]
theorem remW (a b : Int) (hb : b ≠ 0) : binop .rem (.int .i64 a) (.int .i64 b) = some (I (a.tmod b)) := by simp [binop, hb]
theorem r107 (r : Int) (H : Heap) : ∃ v', (∃ t : Str, v' = .str t ∧ t.length ≤ 4) ∧ Ret env 107 [I r] H v' H := by
  refine Ret.isoQ (f := c107) rfl rfl rfl (PubL.plain rfl) (Eq.mpr (x107 _ _ _ _) ?_)
  have fin : ∀ {fr} {H : Heap} (t : Str), t.length ≤ 4 → ∃ v, Pub fr H (.str t) v ∧ ∃ t : Str, v = .str t ∧ t.length ≤ 4 := fun t h => ⟨_, Pub.scalar rfl, t, rfl, h⟩
  refine ⟨_, lssI _ _ _, splitB_bool (fun _ => ?_) fun _ => ?_⟩
  · exact ⟨_, rfl, _, rfl, _, rfl, fin _ (by simp)⟩
  refine ⟨_, lssI _ _ _, splitB_bool (fun _ => ?_) fun _ => ?_⟩
  · exact ⟨_, quoW _ _ (by decide), _, addW _ _, _, rfl, _, remW _ _ (by decide), _, addW _ _, _, rfl, _, rfl, _, rfl, fin _ (by simp)⟩
  refine ⟨_, lssI _ _ _, splitB_bool (fun _ => ?_) fun _ => ?_⟩
  · exact ⟨_, quoW _ _ (by decide), _, addW _ _, _, rfl, _, quoW _ _ (by decide), _, remW _ _ (by decide), _, addW _ _, _, rfl, _, remW _ _ (by decide), _, addW _ _, _, rfl, _, rfl, _, rfl, fin _ (by simp)⟩
  · exact ⟨_, quoW _ _ (by decide), _, addW _ _, _, rfl, _, quoW _ _ (by decide), _, remW _ _ (by decide), _, addW _ _, _, rfl, _, quoW _ _ (by decide), _, remW _ _ (by decide), _, addW _ _, _, rfl, _, remW _ _ (by decide), _, addW _ _, _, rfl, _, rfl, _, rfl, fin _ (by simp)⟩
def EscOk (s : Str) (i : Nat) (v : AV) : Prop := ∃ (t : Str) (n : Nat), v = .tup [.str t, I ↑n] ∧ (n = 0 ∨ (1 ≤ n ∧ n ≤ 6 ∧ i + n ≤ s.length ∧ t.length ≤ 4))
theorem r104 (s : Str) (i : Nat) (hi : i ≤ 10000) (H : Heap) : ∃ v', EscOk s i v' ∧ Ret env 104 [.str s, I ↑i] H v' H := by
  refine Ret.isoQ (f := c104) rfl rfl rfl (PubL.plain rfl) (Eq.mpr (x104 _ _ _ _ _) ?_)
  have fin : ∀ {t : Str} {n : Nat} {fr} {H : Heap}, (n = 0 ∨ (1 ≤ n ∧ n ≤ 6 ∧ i + n ≤ s.length ∧ t.length ≤ 4)) → ∃ v, Pub fr H (.tup [.str t, I ↑n]) v ∧ EscOk s i v := fun {t n _ _} h => ⟨_, Pub.scalars2, t, n, rfl, h⟩
  have a1 := add1' (i := i) (by omega)
  refine ⟨fun n f H => ∃ j : Nat, j + n = 8 ∧ f 8 = I ↑j ∧ H = [], ⟨8, 0, by simp, rfl, rfl⟩, ?_⟩
  rintro n f H ⟨j, hj, h8, rfl⟩
  rw [h8]
  refine ⟨_, rfl, _, lssI _ _ _, splitB_bool (fun h => ?_) fun h => ?_⟩
  · have h : j < 8 := by have : (j : Int) < 8 := h |> of_decide_eq_true
                         omega
    refine ⟨by kernel_rfl, ?_⟩
    obtain ⟨c, hc⟩ : ∃ c, ([34, 92, 47, 98, 102, 110, 114, 116] : Str)[j]? = some c := ⟨_, List.getElem?_eq_getElem (by simpa using h)⟩
    rw [a1, getP_some, k100, index_str hc, getP_some]
    refine ⟨_, rfl, _, eqlI _ _ _, trOk_quiet (by simp), splitB_bool (fun he => ?_) fun he => ?_⟩
    · have hin : i + 1 < s.length := by
        have := c.toNat_lt
        have he : oneZ s (i + 1) = IntKind.wrap .i64 c.toNat := by simpa using he
        rw [wrap64 (by omega) (by omega)] at he
        exact oneZ_in (by omega)
      rw [add1' (by omega), getP_some, slice_mid (by omega) (by simp; omega), getP_some]
      exact fin (n := 2) (.inr ⟨by omega, by omega, by omega, by simp; omega⟩)
    · rw [add1' (by omega), getP_some]
      exact ⟨n - 1, by omega, j + 1, by omega, rfl, rfl⟩
  · rw [a1, getP_some, k100]
    refine ⟨_, neqI _ _ _, splitB_bool (fun h => fin (n := 0) (.inl rfl)) fun h => ?_⟩
    refine ⟨fun n f H => ∃ (j : Nat) (r : Int), j + n = 6 ∧ 2 ≤ j ∧ f 10 = I ↑j ∧ f 9 = I r ∧ H = [] ∧ (2 < j → i + j ≤ s.length), ⟨4, 2, 0, by omega, by omega, rfl, rfl, rfl, by omega⟩, ?_⟩
    rintro n2 f2 H ⟨j2, r, hj2, hj22, h10, h9, rfl, hin⟩
    rw [h10, h9]
    refine ⟨_, lssI _ _ _, splitB_bool (fun h => ?_) fun h => ?_⟩
    · have h : j2 < 6 := by have : (j2 : Int) < 6 := of_decide_eq_true h
                            omega
      rw [addK (by omega), getP_some, k100]
      obtain ⟨_, ⟨d, rfl, hd⟩, hr⟩ := r106 (oneZ s (i + j2)) []
      refine ⟨_, _, hr, _, lssI _ _ _, splitB_bool (fun h => fin (n := 0) (.inl rfl)) fun h => ?_⟩
      have h : ¬ d < 0 := by simpa using h
      rw [mulW, getP_some, addW, getP_some, add1' (by omega), getP_some]
      refine ⟨n2 - 1, by omega, j2 + 1, _, by omega, by omega, rfl, rfl, rfl, fun _ => ?_⟩
      have : i + j2 < s.length := oneZ_in (by
        rcases Int.lt_or_le (oneZ s (i + j2)) 0 with q | q
        · exact absurd (hd q) h
        · exact q)
      omega
    · have hj6 : j2 = 6 := by have : ¬ (j2 : Int) < 6 := of_decide_eq_false h
                              omega
      subst hj6
      have hin := hin (by omega)
      obtain ⟨_, ⟨t, rfl, ht⟩, hr⟩ := r107 r []
      have f6 : ∀ {fr}, ∃ v, Pub fr [] (.tup [.str t, I ↑(6 : Nat)]) v ∧ EscOk s i v := fin (n := 6) (.inr ⟨by omega, by omega, by omega, ht⟩)
      refine ⟨_, geqI _ _ _, splitB_bool (fun h => ?_) fun h => ⟨_, _, hr, f6⟩⟩
      exact ⟨_, leqI _ _ _, splitB_bool (fun h => fin (n := 0) (.inl rfl)) fun h => ⟨_, _, hr, f6⟩⟩
/-- A text and the place behind it; 0: none. -/
def TextOk (s : Str) (i : Nat) (v : AV) : Prop := ∃ (t : Str) (n : Nat), v = .tup [.str t, I ↑n] ∧ (n = 0 ∨ (i < n ∧ n ≤ s.length))
theorem catS {a b : Str} (h : a.length + b.length < 9223372036854775808) : binop .add (.str a) (.str b) = some (.str (a ++ b)) := by simp [binop, h]
theorem r98 (s : Str) (hl : s.length ≤ 4096) (i : Nat) (hi : i < s.length) (H : Heap) : ∃ v', TextOk s i v' ∧ Ret env 98 [.str s, I ↑i] H v' H := by
  refine Ret.isoQ (f := c98) rfl rfl rfl (PubL.plain rfl) (Eq.mpr (x98 _ _ _ _ _) ?_)
  have fin : ∀ {t : Str} {n : Nat} {fr} {H : Heap}, (n = 0 ∨ (i < n ∧ n ≤ s.length)) → ∃ v, Pub fr H (.tup [.str t, I ↑n]) v ∧ TextOk s i v := fun {t n _ _} h => ⟨_, Pub.scalars2, t, n, rfl, h⟩
  rw [add1' (by omega), getP_some]
  refine ⟨fun n f H => ∃ (j : Nat) (out : Str), j + n = s.length ∧ i < j ∧ f 1 = I ↑j ∧ f 6 = .str out ∧ out.length ≤ 4 * j, ⟨s.length - (i + 1), i + 1, [], by omega, by omega, rfl, rfl, by simp⟩, ?_⟩
  rintro n f H ⟨j, out, hj, hij, h1, h6, ho⟩
  rw [h1, h6]
  refine ⟨_, rfl, _, lssI _ _ _, splitB_bool (fun h => ?_) fun h => fin (n := 0) (.inl rfl)⟩
  have h : j < s.length := by simpa using h
  rw [index_str (List.getElem?_eq_getElem h), getP_some]
  refine ⟨_, eqlI _ _ _, splitB_bool (fun h => ?_) fun h => ?_⟩
  · rw [add1' (by omega), getP_some]
    exact fin (n := j + 1) (.inr ⟨by omega, by omega⟩)
  rw [getP_some]
  refine ⟨_, eqlI _ _ _, splitB_bool (fun h => ?_) fun h => ?_⟩
  · obtain ⟨_, ⟨t, m, rfl, hm⟩, hr⟩ := r104 s j (by omega) H
    refine ⟨_, _, hr, _, rfl, _, rfl, _, eqlI _ _ _, splitB_bool (fun h => fin (n := 0) (.inl rfl)) fun h => ?_⟩
    have h0 : m ≠ 0 := by rintro rfl; simp at h
    have hm := hm.resolve_left h0
    rw [catS (by omega), getP_some, addK (by omega), getP_some]
    exact ⟨n - m, by omega, j + m, out ++ t, by omega, by omega, rfl, rfl, by simp; omega⟩
  · obtain ⟨_, ⟨r, m, rfl, hm⟩, hr⟩ := r94 s j (by omega) H
    refine ⟨_, _, hr, _, rfl, _, rfl, _, eqlI _ _ _, splitB_bool (fun h => fin (n := 0) (.inl rfl)) fun h => ?_⟩
    have h0 : m ≠ 0 := by rintro rfl; simp at h
    have hm := hm.resolve_left h0
    have tl : (List.drop j (List.take (j + m) s)).length = m := by simp; omega
    have step : getP (binop .add (I ↑j) (I ↑m)) fun v28 => getP (sliceA 0 (.str s) (some (I ↑j)) (some v28) none) fun v29 => getP (binop .add (.str out) v29) fun v30 => v28 = I ↑(j + m) ∧ ∃ t, v29 = .str t ∧ v30 = .str (out ++ t) ∧ t.length = m := by
      rw [addK (by omega), getP_some, slice_mid (by omega) (by omega), getP_some, catS (by omega), getP_some]
      exact ⟨rfl, _, rfl, rfl, tl⟩
    refine ⟨_, lssI _ _ _, splitB_bool (fun h => ?_) fun h => ?_⟩
    · refine ⟨_, neqI _ _ _, splitB_bool (fun h => fin (n := 0) (.inl rfl)) fun h => ?_⟩
      rw [addK (by omega), getP_some, slice_mid (by omega) (by omega), getP_some, catS (by omega), getP_some, getP_some]
      exact ⟨n - m, by omega, j + m, _, by omega, by omega, rfl, rfl, by rw [List.length_append, tl]; omega⟩
    · rw [addK (by omega), getP_some, slice_mid (by omega) (by omega), getP_some, catS (by omega), getP_some, getP_some]
      exact ⟨n - m, by omega, j + m, _, by omega, by omega, rfl, rfl, by rw [List.length_append, tl]; omega⟩
end Go.AM.T

/- Contracts: numbers. -/
namespace Go.AM.T
set_option linter.unusedVariables false
set_option linter.unusedSimpArgs false
set_option maxRecDepth 100000

theorem goP {nt : Nat} {a b : RC} {Q : Post} (Pre N : (Nat → AV) → Prop) (S : List AV) (hl : S.length = nt) (hX : ∀ g : Nat → AV, Pre g → X env a (fun out s' H' => match out with | .normal => H' = [] ∧ N (fun i => s'.getD i undef) | .ret => Q .ret s' H' | .exit _ => False) ((List.range nt).map g) [])
    (hp : Pre (fun i => S.getD i undef)) (hb : ∀ S', Fr (writes a) S S' → N (fun i => S'.getD i undef) → W env b Q S' []) : W env (.seq a b) Q S [] := by
  refine stepP N ?_ hb
  have := hX (fun i => S.getD i undef) hp
  rw [← expand hl] at this
  exact this
def NumOk (s : Str) (i : Nat) (v : AV) : Prop := ∃ (k : Int) (n : Nat), v = .tup [I k, I ↑n] ∧ k ≠ 1 ∧ (n = 0 ∨ (i < n ∧ n ≤ s.length))
theorem r95 (s : Str) (hl : s.length ≤ 4096) (i : Nat) (hi : i < s.length) (H : Heap) : ∃ v', NumOk s i v' ∧ Ret env 95 [.str s, I ↑i] H v' H := by
  refine Ret.isoW (f := c95) rfl rfl rfl (PubL.plain rfl) ?_
  rw [c95_cut]
  have hs : Short s := by simp only [Short]; omega
  have fin : ∀ {k : Int} {n : Nat} {fr} {H : Heap}, k ≠ 1 → (n = 0 ∨ (i < n ∧ n ≤ s.length)) → ∃ v, Pub fr H (.tup [I k, I ↑n]) v ∧ NumOk s i v := fun {k n _ _} h1 h2 => ⟨_, Pub.scalars2, k, n, rfl, h1, h2⟩
  let A : (Nat → AV) → Prop := fun g => g 0 = .str s
  let B : Nat → (Nat → AV) → Prop := fun lo g => ∃ j : Nat, g 1 = I ↑j ∧ lo ≤ j ∧ j ≤ s.length
  have upA : ∀ {ws : List Nat} {S S' : List AV}, A (fun i => S.getD i undef) → Fr ws S S' → 0 ∉ ws → A (fun i => S'.getD i undef) := fun h f h0 => (f.get 0 h0).trans h
  have upB : ∀ {ws : List Nat} {S S' : List AV} {lo}, B lo (fun i => S.getD i undef) → Fr ws S S' → 1 ∉ ws → B lo (fun i => S'.getD i undef) := fun ⟨j, h1, h2⟩ f h0 => ⟨j, (f.get 1 h0).trans h1, h2⟩
  refine goP (nt := 95) A (fun _ => True) _ rfl (fun g _ => Eq.mpr (y95_0 _ _ _ _) ⟨rfl, trivial⟩) rfl fun S1 f1 _ => ?_
  have a1 : A (fun i => S1.getD i undef) := upA (S := [AV.str s, I ↑i] ++ List.replicate (c95.nt - [AV.str s, I ↑i].length) undef) rfl f1 (by decide)
  have b1 : S1.getD 1 undef = I ↑i := f1.get 1 (by decide)
  have l1 : S1.length = 95 := f1.len
  refine goP (nt := 95) (fun g => A g ∧ g 1 = I ↑i) (B i) _ l1 (fun g hg => Eq.mpr (y95_1 _ _ _ _) ?_) ⟨a1, b1⟩ fun S2 f2 b2 => ?_
  · have e0 : g 0 = .str s := hg.1
    rw [e0, hg.2, k100]
    refine ⟨_, eqlI _ _ _, splitB_bool (fun h => ?_) fun h => ⟨rfl, i, rfl, Nat.le_refl _, by omega⟩⟩
    rw [add1' (by omega), getP_some]
    exact ⟨rfl, i + 1, rfl, by omega, by omega⟩
  have a2 := upA a1 f2 (by decide)
  have l2 : S2.length = 95 := f2.len.trans l1
  refine goP (nt := 95) (fun g => A g ∧ B i g) (fun g => ∃ j e : Nat, g 1 = I ↑j ∧ g 6 = I ↑e ∧ i ≤ j ∧ j ≤ e ∧ e ≤ s.length) _ l2 (fun g hg => Eq.mpr (y95_2 _ _ _ _) ?_) ⟨a2, b2⟩ fun S3 f3 b3 => ?_
  · have e0 : g 0 = .str s := hg.1
    obtain ⟨j, e1, h1, h2⟩ := hg.2
    rw [e0, e1]
    obtain ⟨_, ⟨e, rfl, h3, h4⟩, hr⟩ := r103 s hs j h2 []
    exact ⟨_, _, hr, rfl, j, e, rfl, rfl, h1, h3, h4⟩
  have a3 := upA a2 f3 (by decide)
  have l3 : S3.length = 95 := f3.len.trans l2
  refine goP (nt := 95) (fun g => A g ∧ ∃ j e : Nat, g 1 = I ↑j ∧ g 6 = I ↑e ∧ i ≤ j ∧ j ≤ e ∧ e ≤ s.length) (fun g => ∃ e : Nat, g 6 = I ↑e ∧ i < e ∧ e ≤ s.length) _ l3 (fun g hg => Eq.mpr (y95_3 _ _ _ _) ?_) ⟨a3, b3⟩ fun S4 f4 b4 => ?_
  · have e0 : g 0 = .str s := hg.1
    obtain ⟨j, e, e1, e6, h1, h2, h3⟩ := hg.2
    rw [e0, e1, e6]
    refine ⟨_, eqlI _ _ _, splitB_bool (fun h => fin (k := 0) (n := 0) (by decide) (.inl rfl)) fun h => ?_⟩
    have hne : e ≠ j := by rintro rfl; simp at h
    have hj : j < s.length := by omega
    rw [index_str (List.getElem?_eq_getElem hj), getP_some]
    refine ⟨_, eqlI _ _ _, splitB_bool (fun h => ?_) fun h => ⟨rfl, e, rfl, by omega, h3⟩⟩
    rw [add1' (by omega), getP_some]
    exact ⟨_, gtrI _ _ _, splitB_bool (fun h => fin (k := 0) (n := 0) (by decide) (.inl rfl)) fun h => ⟨rfl, e, rfl, by omega, h3⟩⟩
  have a4 := upA a3 f4 (by decide)
  have l4 : S4.length = 95 := f4.len.trans l3
  refine goP (nt := 95) (fun g => ∃ e : Nat, g 6 = I ↑e ∧ i < e ∧ e ≤ s.length) (B (i + 1)) _ l4 (fun g hg => Eq.mpr (y95_4 _ _ _ _) ?_) b4 fun S5 f5 b5 => ?_
  · obtain ⟨e, h1, h2, h3⟩ := hg
    exact ⟨rfl, e, h1, by omega, h3⟩
  have a5 := upA a4 f5 (by decide)
  have l5 : S5.length = 95 := f5.len.trans l4
  let D : (Nat → AV) → Prop := fun g => g 7 = I 2 ∨ g 7 = I 3
  refine goP (nt := 95) (B (i + 1)) (fun g => D g ∧ B (i + 1) g) _ l5 (fun g hg => Eq.mpr (y95_5 _ _ _ _) ?_) b5 fun S6 f6 b6 => ?_
  · exact ⟨rfl, .inl rfl, hg⟩
  have a6 := upA a5 f6 (by decide)
  have l6 : S6.length = 95 := f6.len.trans l5
  refine goP (nt := 95) (fun g => A g ∧ D g ∧ B (i + 1) g) (fun g => D g ∧ B (i + 1) g) _ l6 (fun g hg => Eq.mpr (y95_6 _ _ _ _) ?_) ⟨a6, b6⟩ fun S7 f7 b7 => ?_
  · have e0 : g 0 = .str s := hg.1
    obtain ⟨j, e1, h1, h2⟩ := hg.2.2
    rw [e0, e1, k100]
    refine ⟨_, eqlI _ _ _, splitB_bool (fun h => ?_) fun h => ⟨rfl, hg.2.1, j, rfl, h1, h2⟩⟩
    have hj : j < s.length := by
      have : oneZ s j = 46 := by simpa using h
      exact oneZ_in (by omega)
    rw [add1' (by omega), getP_some]
    obtain ⟨_, ⟨e, rfl, h3, h4⟩, hr⟩ := r103 s hs (j + 1) (by omega) []
    refine ⟨_, _, hr, ?_⟩
    show getP _ _
    rw [getP_some]
    exact ⟨_, eqlI _ _ _, splitB_bool (fun h => fin (k := 0) (n := 0) (by decide) (.inl rfl)) fun h => ⟨rfl, .inr rfl, e, rfl, by omega, h4⟩⟩
  have a7 := upA a6 f7 (by decide)
  have l7 : S7.length = 95 := f7.len.trans l6
  refine goP (nt := 95) (fun g => A g ∧ D g ∧ B (i + 1) g) (fun g => D g ∧ B (i + 1) g) _ l7 (fun g hg => Eq.mpr (y95_7 _ _ _ _) ?_) ⟨a7, b7⟩ fun S8 f8 b8 => ?_
  · have e0 : g 0 = .str s := hg.1
    obtain ⟨j, e1, h1, h2⟩ := hg.2.2
    have one' : ∀ {k : Nat} {c : Int}, (oneZ s k == c) = true → 0 ≤ c → k < s.length := fun {k c} h hc => by
      have : oneZ s k = c := by simpa using h
      exact oneZ_in (by omega)
    rw [e0, e1, k100]
    have tail : ∀ {fr : Bool} {K : AV → Heap → Prop} (j : Nat), i + 1 ≤ j → j ≤ s.length → (∀ e : Nat, j ≤ e → e ≤ s.length → K (I ↑e) []) → callP env 103 [.str s, I ↑j] [] K := by
      intro fr K j h1 h2 hK
      obtain ⟨_, ⟨e, rfl, h3, h4⟩, hr⟩ := r103 s hs j h2 []
      exact ⟨_, _, hr, hK e h3 h4⟩
    have last : ∀ (e : Nat), i + 1 ≤ e → e ≤ s.length → True := fun _ _ _ => trivial
    have sub : ∀ (j : Nat), i + 1 ≤ j → j < s.length → True := fun _ _ _ => trivial
    refine ⟨_, eqlI _ _ _, splitB_bool (fun h => ?_) fun h => ?_⟩
    · have hj := one' h (by decide)
      rw [add1' (by omega), getP_some, k100]
      refine ⟨_, eqlI _ _ _, splitB_bool (fun h => ?_) fun h => ?_⟩
      · have hj2 := one' h (by decide)
        rw [add1' (by omega), getP_some]
        exact tail (fr := true) _ (by omega) (by omega) fun e q1 q2 => ⟨_, eqlI _ _ _, splitB_bool (fun h => fin (k := 0) (n := 0) (by decide) (.inl rfl)) fun h => ⟨rfl, .inr rfl, e, rfl, by omega, q2⟩⟩
      · rw [k100]
        refine ⟨_, eqlI _ _ _, splitB_bool (fun h => ?_) fun h => ?_⟩
        · have hj2 := one' h (by decide)
          rw [add1' (by omega), getP_some]
          exact tail (fr := true) _ (by omega) (by omega) fun e q1 q2 => ⟨_, eqlI _ _ _, splitB_bool (fun h => fin (k := 0) (n := 0) (by decide) (.inl rfl)) fun h => ⟨rfl, .inr rfl, e, rfl, by omega, q2⟩⟩
        · exact tail (fr := true) _ (by omega) (by omega) fun e q1 q2 => ⟨_, eqlI _ _ _, splitB_bool (fun h => fin (k := 0) (n := 0) (by decide) (.inl rfl)) fun h => ⟨rfl, .inr rfl, e, rfl, by omega, q2⟩⟩
    · rw [k100]
      refine ⟨_, eqlI _ _ _, splitB_bool (fun h => ?_) fun h => ⟨rfl, hg.2.1, j, rfl, h1, h2⟩⟩
      have hj := one' h (by decide)
      rw [add1' (by omega), getP_some, k100]
      refine ⟨_, eqlI _ _ _, splitB_bool (fun h => ?_) fun h => ?_⟩
      · have hj2 := one' h (by decide)
        rw [add1' (by omega), getP_some]
        exact tail (fr := true) _ (by omega) (by omega) fun e q1 q2 => ⟨_, eqlI _ _ _, splitB_bool (fun h => fin (k := 0) (n := 0) (by decide) (.inl rfl)) fun h => ⟨rfl, .inr rfl, e, rfl, by omega, q2⟩⟩
      · rw [k100]
        refine ⟨_, eqlI _ _ _, splitB_bool (fun h => ?_) fun h => ?_⟩
        · have hj2 := one' h (by decide)
          rw [add1' (by omega), getP_some]
          exact tail (fr := true) _ (by omega) (by omega) fun e q1 q2 => ⟨_, eqlI _ _ _, splitB_bool (fun h => fin (k := 0) (n := 0) (by decide) (.inl rfl)) fun h => ⟨rfl, .inr rfl, e, rfl, by omega, q2⟩⟩
        · exact tail (fr := true) _ (by omega) (by omega) fun e q1 q2 => ⟨_, eqlI _ _ _, splitB_bool (fun h => fin (k := 0) (n := 0) (by decide) (.inl rfl)) fun h => ⟨rfl, .inr rfl, e, rfl, by omega, q2⟩⟩
  have a8 := upA a7 f8 (by decide)
  have l8 : S8.length = 95 := f8.len.trans l7
  refine goP (nt := 95) (fun g => A g ∧ D g ∧ B (i + 1) g) (fun g => D g ∧ B (i + 1) g) _ l8 (fun g hg => Eq.mpr (y95_8 _ _ _ _) ?_) ⟨a8, b8⟩ fun S9 f9 b9 => ?_
  · have e0 : g 0 = .str s := hg.1
    obtain ⟨j, e1, h1, h2⟩ := hg.2.2
    rw [e0, e1]
    refine ⟨_, rfl, _, lssI _ _ _, splitB_bool (fun h => ?_) fun h => ⟨rfl, hg.2.1, j, rfl, h1, h2⟩⟩
    have hj : j < s.length := by simpa using h
    rw [index_str (List.getElem?_eq_getElem hj), getP_some]
    refine ⟨_, eqlI _ _ _, splitB_bool (fun h => fin (k := 0) (n := 0) (by decide) (.inl rfl)) fun h => ?_⟩
    rw [getP_some, k33]
    exact splitB_bool (fun h => fin (k := 0) (n := 0) (by decide) (.inl rfl)) fun h => ⟨rfl, hg.2.1, j, rfl, h1, h2⟩
  have l9 : S9.length = 95 := f9.len.trans l8
  refine goP (nt := 95) (fun g => D g ∧ B (i + 1) g) (fun g => (g 4 = I 2 ∨ g 4 = I 3) ∧ ∃ j : Nat, g 5 = I ↑j ∧ i + 1 ≤ j ∧ j ≤ s.length) _ l9 (fun g hg => Eq.mpr (y95_9 _ _ _ _) ⟨rfl, hg.1, hg.2⟩) b9 fun S10 f10 b10 => ?_
  show ∃ v, Pub _ [] (packA [S10.getD 4 undef, S10.getD 5 undef]) v ∧ _
  obtain ⟨h4, j, h5, h6, h7⟩ := b10
  have h5 : S10.getD 5 undef = I ↑j := h5
  rw [h5]
  rcases h4 with h4 | h4
  · have h4 : S10.getD 4 undef = I 2 := h4
    rw [h4]; exact fin (by decide) (.inr ⟨by omega, h7⟩)
  · have h4 : S10.getD 4 undef = I 3 := h4
    rw [h4]; exact fin (by decide) (.inr ⟨by omega, h7⟩)
end Go.AM.T

/- Contracts: what stands between tokens, lines, block strings. -/
namespace Go.AM.T
set_option linter.unusedVariables false
set_option linter.unusedSimpArgs false
set_option maxRecDepth 100000

def GapOk (s : Str) (i : Nat) (v : AV) : Prop := ∃ (j : Nat) (q : Bool), v = .tup [I ↑j, .bool q] ∧ i ≤ j ∧ j ≤ s.length
theorem r83 (s : Str) (hl : s.length ≤ 4096) (i : Nat) (hi : i ≤ s.length) (H : Heap) : ∃ v', GapOk s i v' ∧ Ret env 83 [.str s, I ↑i] H v' H := by
  refine Ret.isoQ (f := c83) rfl rfl rfl (PubL.plain rfl) (Eq.mpr (x83 _ _ _ _ _) ?_)
  have fin : ∀ {j : Nat} {q : Bool} {fr} {H : Heap}, i ≤ j → j ≤ s.length → ∃ v, Pub fr H (.tup [I ↑j, .bool q]) v ∧ GapOk s i v := fun {j q _ _} h1 h2 => ⟨_, Pub.scalars2, j, q, rfl, h1, h2⟩
  refine ⟨fun n f H => ∃ j : Nat, j + n = s.length ∧ f 1 = I ↑j ∧ i ≤ j, ⟨s.length - i, i, by omega, rfl, Nat.le_refl _⟩, ?_⟩
  rintro n f H ⟨j, hj, h1, hij⟩
  rw [h1]
  refine ⟨_, rfl, _, lssI _ _ _, splitB_bool (fun h => ?_) fun h => fin hij (by omega)⟩
  have h : j < s.length := by simpa using h
  have hg := List.getElem?_eq_getElem h
  refine ⟨_, index_str hg, ?_⟩
  refine ⟨_, eqlI _ _ _, splitB_bool (fun _ => ⟨_, add1' (by omega), n - 1, by omega, j + 1, by omega, rfl, by omega⟩) fun _ => ?_⟩
  refine ⟨_, eqlI _ _ _, splitB_bool (fun _ => ⟨_, add1' (by omega), n - 1, by omega, j + 1, by omega, rfl, by omega⟩) fun _ => ?_⟩
  refine ⟨_, eqlI _ _ _, splitB_bool (fun _ => ⟨_, add1' (by omega), n - 1, by omega, j + 1, by omega, rfl, by omega⟩) fun _ => ?_⟩
  refine ⟨_, eqlI _ _ _, splitB_bool (fun _ => ⟨_, add1' (by omega), n - 1, by omega, j + 1, by omega, rfl, by omega⟩) fun _ => ?_⟩
  refine ⟨_, eqlI _ _ _, splitB_bool (fun _ => ⟨_, add1' (by omega), n - 1, by omega, j + 1, by omega, rfl, by omega⟩) fun _ => ?_⟩
  refine ⟨_, eqlI _ _ _, splitB_bool (fun h0 => ⟨_, rfl, _, geqI _ _ _, splitB_bool (fun h3 => ⟨_, slice_to (n := 3) ?b, _, eqlS _ _, splitB_bool (fun _ => ?c) fun _ => ?_⟩) fun _ => ?_⟩) fun _ => ?_⟩
  case b => have := of_decide_eq_true h3; omega
  case c =>
    have h3 := of_decide_eq_true h3
    have h0 : j = 0 := by simpa using h0
    exact ⟨s.length - 3, by omega, 3, by omega, rfl, by omega⟩
  all_goals
    refine ⟨_, eqlI _ _ _, splitB_bool (fun hh => ?_) fun _ => fin hij (by omega)⟩
    refine ⟨fun n f H => ∃ j2 : Nat, j2 + n = s.length ∧ f 1 = I ↑j2 ∧ j ≤ j2, ⟨n, j, hj, rfl, Nat.le_refl _⟩, ?_⟩
    rintro n2 f2 H2 ⟨j2, hj2, h21, hij2⟩
    rw [h21]
    refine ⟨_, rfl, _, lssI _ _ _, splitB_bool (fun h => ?_) fun h => ?_⟩
    · have h2 : j2 < s.length := by simpa using h
      have hg2 := List.getElem?_eq_getElem h2
      refine ⟨_, index_str hg2, _, neqI _ _ _, splitB_bool (fun _ => ⟨_, index_str hg2, _, neqI _ _ _, splitB_bool (fun _ => ?_) fun he => ?_⟩) fun he => ?_⟩
      · obtain ⟨_, ⟨r, m, rfl, hm⟩, hr⟩ := r94 s j2 (by omega) H2
        refine ⟨_, _, hr, _, rfl, _, rfl, _, eqlI _ _ _, splitB_bool (fun h => fin (by omega) (by omega)) fun h => ?_⟩
        have h0 : m ≠ 0 := by rintro rfl; simp at h
        have hm := hm.resolve_left h0
        refine ⟨_, lssI _ _ _, splitB_bool (fun _ => ⟨_, neqI _ _ _, splitB_bool (fun _ => fin (by omega) (by omega)) fun _ => ?_⟩) fun _ => ?_⟩
        · exact ⟨_, addK (by omega), n2 - m, by omega, j2 + m, by omega, rfl, by omega⟩
        · exact ⟨_, addK (by omega), n2 - m, by omega, j2 + m, by omega, rfl, by omega⟩
      · have : j2 ≠ j := by rintro rfl; simp at he hh; omega
        exact ⟨n2, by omega, j2, hj2, rfl, by omega⟩
      · have : j2 ≠ j := by rintro rfl; simp at he hh; omega
        exact ⟨n2, by omega, j2, hj2, rfl, by omega⟩
    · have : ¬ j2 < s.length := by simpa using h
      exact ⟨n2, by omega, j2, hj2, rfl, by omega⟩

theorem r102 {a : AV} {l : List Str} (ha : SLike a (strs l)) (hn : l.length ≤ 5000) (hs : ∀ s ∈ l, s.length ≤ 5000) {args : List AV} {H : Heap} (hp : PubL H args [a]) : ∃ v', (∃ t : Str, v' = .str t) ∧ Ret env 102 args H v' H := by
  refine Ret.isoQ (f := c102) rfl rfl rfl hp (Eq.mpr (x102 _ _ _ _) ?_)
  have fin : ∀ {t : Str} {fr} {H : Heap}, ∃ v, Pub fr H (.str t) v ∧ ∃ t : Str, v = .str t := fun {t _ _} => ⟨_, Pub.scalar rfl, t, rfl⟩
  refine ⟨fun n f H => ∃ j c : Nat, j + n = l.length + 1 ∧ 1 ≤ j ∧ f 4 = I ↑j ∧ f 3 = I ↑c, ⟨l.length, 1, 1000000, by omega, by omega, rfl, rfl⟩, ?_⟩
  rintro n f H ⟨j, c, hj, hj1, h4, h3⟩
  rw [h4, h3]
  refine ⟨_, ha.len _, _, lssI _ _ _, splitB_bool (fun h => ?_) fun h => ?_⟩
  · have h : j < l.length := by simpa using h
    have hsl := hs l[j] (List.getElem_mem h)
    obtain ⟨_, ⟨b, rfl, hb⟩, hr⟩ := r105 l[j] (by simp only [Short]; omega) H
    refine ⟨_, ha.iaddr (get_map h) (strs_cells l), _, rfl, _, _, hr, _, ha.iaddr (get_map h) (strs_cells l), _, rfl, _, rfl, _, lssI _ _ _, splitB_bool (fun _ => ⟨_, lssI _ _ _, splitB_bool (fun _ => ?_) fun _ => ?_⟩) fun _ => ?_⟩
    · exact ⟨_, add1' (by omega), n - 1, by omega, j + 1, b, by omega, by omega, rfl, rfl⟩
    · exact ⟨_, add1' (by omega), n - 1, by omega, j + 1, c, by omega, by omega, rfl, rfl⟩
    · exact ⟨_, add1' (by omega), n - 1, by omega, j + 1, c, by omega, by omega, rfl, rfl⟩
  · refine ⟨_, ha.len _, ?_⟩
    refine ⟨fun n f H => ∃ (j : Nat), j + n = l.length ∧ f 38 = I ↑j ∧ ((f 6 = I (-1) ∧ f 7 = I (-1)) ∨ ∃ p q : Nat, f 6 = I ↑p ∧ f 7 = I ↑q ∧ p < l.length ∧ q < l.length), ⟨l.length, 0, by omega, rfl, .inl ⟨rfl, rfl⟩⟩, ?_⟩
    rintro n2 f2 H2 ⟨j2, hj2, h38, hpq⟩
    rw [h38]
    refine ⟨_, lssI _ _ _, splitB_bool (fun h => ?_) fun h => ?_⟩
    · have h : j2 < l.length := by simpa using h
      have hsl := hs l[j2] (List.getElem_mem h)
      obtain ⟨_, ⟨b, rfl, hb⟩, hr⟩ := r105 l[j2] (by simp only [Short]; omega) H2
      refine ⟨by kernel_rfl, _, ha.iaddr (get_map h) (strs_cells l), _, rfl, _, _, hr, _, ha.iaddr (get_map h) (strs_cells l), _, rfl, _, rfl, _, lssI _ _ _, trOk_quiet (by simp), splitB_bool (fun _ => ?_) fun _ => ?_⟩
      · rcases hpq with ⟨h6, h7⟩ | ⟨p, q, h6, h7, hp', hq'⟩
        · rw [h6]
          refine ⟨_, lssI _ _ _, splitB_bool (fun _ => ?_) fun hh => by simp at hh⟩
          exact ⟨_, add1' (by omega), n2 - 1, by omega, j2 + 1, by omega, rfl, .inr ⟨j2, j2, rfl, rfl, h, h⟩⟩
        · rw [h6]
          refine ⟨_, lssI _ _ _, splitB_bool (fun hh => ?_) fun _ => ?_⟩
          · have := of_decide_eq_true hh; omega
          exact ⟨_, add1' (by omega), n2 - 1, by omega, j2 + 1, by omega, rfl, .inr ⟨p, j2, rfl, rfl, hp', h⟩⟩
      · exact ⟨_, add1' (by omega), n2 - 1, by omega, j2 + 1, by omega, rfl, hpq⟩
    · rcases hpq with ⟨h6, h7⟩ | ⟨p, q, h6, h7, hp', hq'⟩
      · rw [h6, h7]
        refine ⟨fun n f H => ∃ out : Str, f 9 = .str out ∧ f 10 = I (-1), ⟨0, [], rfl, rfl⟩, ?_⟩
        rintro n3 f3 H3 ⟨out, h9, h10⟩
        rw [h9, h10]
        exact ⟨_, geqI _ _ _, splitB_bool (fun hh => by simp at hh) fun _ => fin⟩
      · rw [h6, h7]
        refine ⟨fun n f H => ∃ (k : Nat) (out : Str), k + n = l.length ∧ f 9 = .str out ∧ f 10 = I ↑k ∧ out.length ≤ k * 5001, ⟨l.length - p, p, [], by omega, rfl, rfl, by simp⟩, ?_⟩
        rintro n3 f3 H3 ⟨k, out, hk, h9, h10, ho⟩
        rw [h9, h10]
        refine ⟨_, geqI _ _ _, splitB_bool (fun _ => ?_) fun _ => fin⟩
        refine ⟨_, leqI _ _ _, splitB_bool (fun hle => ?_) fun _ => fin⟩
        have hle := of_decide_eq_true hle
        have h : k < l.length := by omega
        have hsl := hs l[k] (List.getElem_mem h)
        have mk : (1000000 : Int) = ((1000000 : Nat) : Int) := rfl
        generalize hM : (1000000 : Int) = M
        refine ⟨_, ha.iaddr (get_map h) (strs_cells l), _, rfl, _, gtrI _ _ _, splitB_bool (fun _ => ?y) fun _ => ?_⟩
        case y =>
          refine ⟨_, lssI _ _ _, splitB_bool (fun _ => ?y) fun _ => ?_⟩
          case y =>
            refine ⟨_, rfl, _, lssI _ _ _, splitB_bool (fun hc => ⟨_, slice_from ?b, ?_⟩) fun _ => ?_⟩
            case b => have := of_decide_eq_true hc; omega
            all_goals
              refine ⟨_, gtrI _ _ _, splitB_bool (fun _ => ?_) fun _ => ?_⟩
              · exact ⟨_, catS (by first | omega | (simp only [List.length_append, List.length_cons, List.length_nil, List.length_drop]; omega)), _, catS (by first | omega | (simp only [List.length_append, List.length_cons, List.length_nil, List.length_drop]; omega)), _, add1' (by omega), n3 - 1, by omega, k + 1, _, by omega, rfl, rfl, by first | omega | (simp only [List.length_append, List.length_cons, List.length_nil, List.length_drop]; omega)⟩
              · exact ⟨_, catS (by first | omega | (simp only [List.length_append, List.length_cons, List.length_nil, List.length_drop]; omega)), _, add1' (by omega), n3 - 1, by omega, k + 1, _, by omega, rfl, rfl, by first | omega | (simp only [List.length_append, List.length_cons, List.length_nil, List.length_drop]; omega)⟩
          all_goals
            refine ⟨_, gtrI _ _ _, splitB_bool (fun _ => ?_) fun _ => ?_⟩
            · exact ⟨_, catS (by first | omega | (simp only [List.length_append, List.length_cons, List.length_nil, List.length_drop]; omega)), _, catS (by first | omega | (simp only [List.length_append, List.length_cons, List.length_nil, List.length_drop]; omega)), _, add1' (by omega), n3 - 1, by omega, k + 1, _, by omega, rfl, rfl, by first | omega | (simp only [List.length_append, List.length_cons, List.length_nil, List.length_drop]; omega)⟩
            · exact ⟨_, catS (by first | omega | (simp only [List.length_append, List.length_cons, List.length_nil, List.length_drop]; omega)), _, add1' (by omega), n3 - 1, by omega, k + 1, _, by omega, rfl, rfl, by first | omega | (simp only [List.length_append, List.length_cons, List.length_nil, List.length_drop]; omega)⟩
        all_goals
          refine ⟨_, gtrI _ _ _, splitB_bool (fun _ => ?_) fun _ => ?_⟩
          · exact ⟨_, catS (by first | omega | (simp only [List.length_append, List.length_cons, List.length_nil, List.length_drop]; omega)), _, catS (by first | omega | (simp only [List.length_append, List.length_cons, List.length_nil, List.length_drop]; omega)), _, add1' (by omega), n3 - 1, by omega, k + 1, _, by omega, rfl, rfl, by first | omega | (simp only [List.length_append, List.length_cons, List.length_nil, List.length_drop]; omega)⟩
          · exact ⟨_, catS (by first | omega | (simp only [List.length_append, List.length_cons, List.length_nil, List.length_drop]; omega)), _, add1' (by omega), n3 - 1, by omega, k + 1, _, by omega, rfl, rfl, by first | omega | (simp only [List.length_append, List.length_cons, List.length_nil, List.length_drop]; omega)⟩

theorem ordO_getD (l : List Str) : (ordO l).getD [] = l := by unfold ordO; split <;> simp_all
theorem r97 (s : Str) (hl : s.length ≤ 4096) (i : Nat) (hi : i + 3 ≤ s.length) (H : Heap) : ∃ v', TextOk s i v' ∧ Ret env 97 [.str s, I ↑i] H v' H := by
  refine Ret.isoQ (f := c97) rfl rfl rfl (PubL.plain rfl) (Eq.mpr (x97 _ _ _ _ _) ?_)
  have hs : Short s := by simp only [Short]; omega
  have fin : ∀ {t : Str} {n : Nat} {fr} {H : Heap}, (n = 0 ∨ (i < n ∧ n ≤ s.length)) → ∃ v, Pub fr H (.tup [.str t, I ↑n]) v ∧ TextOk s i v := fun {t n _ _} h => ⟨_, Pub.scalars2, t, n, rfl, h⟩
  refine ⟨_, add3 (by omega), ?_⟩
  refine ⟨fun n f H => ∃ (j : Nat) (line : Str) (ls : List Str), j + n = s.length ∧ i < j ∧ f 1 = I ↑j ∧ f 7 = .str line ∧ line.length ≤ j ∧ OutL (f 6) H ls ∧ ls.length ≤ j ∧ (∀ t ∈ ls, t.length ≤ 5000), ⟨s.length - (i + 3), i + 3, [], [], by omega, by omega, rfl, rfl, by simp, OutL.nil _, by simp, by simp⟩, ?_⟩
  rintro n f H ⟨j, line, ls, hj, hij, h1, h7, hline, ho, hls, hll⟩
  rw [h1, h7]
  refine ⟨_, rfl, _, lssI _ _ _, splitB_bool (fun h => ?_) fun h => fin (n := 0) (.inl rfl)⟩
  have h : j < s.length := by simpa using h
  have hg := List.getElem?_eq_getElem h
  obtain ⟨va, Ha, hoa, _, _, _, hka⟩ := app1 ho line (by omega)
  have hll' : ∀ t ∈ ls ++ [line], t.length ≤ 5000 := by
    intro t ht
    rcases List.mem_append.1 ht with ht | ht
    · exact hll t ht
    · have : t = line := by simpa using ht
      rw [this]; omega
  obtain ⟨_, ⟨q, rfl, hq⟩, hr⟩ := r96 s hs j (by omega) (by omega) H
  refine ⟨_, _, hr, splitB_bool (fun hq' => ?_) fun _ => ?_⟩
  · rw [hka]
    obtain ⟨_, ⟨t, rfl⟩, hr2⟩ := r102 (ostr_like (ordO (ls ++ [line]))) (by rw [ordO_getD]; simp; omega) (by rw [ordO_getD]; exact hll') (args := [va]) (H := Ha) (PubLF.cons hoa.pub .nil)
    exact ⟨_, _, hr2, _, add3 (by omega), fin (n := j + 3) (.inr ⟨by omega, hq hq'⟩)⟩
  refine ⟨_, index_str hg, _, eqlI _ _ _, splitB_bool (fun _ => ?x) fun _ => ?_⟩
  case x =>
    obtain ⟨_, ⟨q2, rfl, hq2⟩, hr2⟩ := r96 s hs (j + 1) (by omega) (by omega) H
    refine ⟨_, add1' (by omega), _, _, hr2, splitB_bool (fun hq' => ?_) fun _ => ?_⟩
    · have := hq2 hq'
      exact ⟨_, catS (by simp; omega), _, add4 (by omega), n - 4, by omega, j + 4, _, ls, by omega, by omega, rfl, rfl, by simp; omega, ho, by omega, hll⟩
    · refine ⟨_, index_str hg, _, eqlI _ _ _, splitB_bool (fun _ => ?_) fun _ => ⟨_, index_str hg, _, eqlI _ _ _, splitB_bool (fun _ => ?_) fun _ => ?_⟩⟩
      · refine ⟨_, index_str hg, _, eqlI _ _ _, splitB_bool (fun _ => ?_) fun _ => ?_⟩
        · refine ⟨_, add1' (by omega), _, _, r100 s (j + 1) H, _, eqlI _ _ _, splitB_bool (fun he => ?_) fun _ => ?_⟩
          · have h2 : j + 1 < s.length := by
              have he : oneZ s (j + 1) = 10 := by simpa using he
              exact oneZ_in (by omega)
            refine ⟨_, add1' (by omega), Eq.mpr (hka _) ?_⟩
            exact ⟨_, add1' (by omega), n - 2, by omega, j + 1 + 1, [], _, by omega, by omega, rfl, rfl, by simp, hoa, by simp; omega, hll'⟩
          · rw [hka]
            exact ⟨_, add1' (by omega), n - 1, by omega, j + 1, [], _, by omega, by omega, rfl, rfl, by simp, hoa, by simp; omega, hll'⟩
        · rw [hka]
          exact ⟨_, add1' (by omega), n - 1, by omega, j + 1, [], _, by omega, by omega, rfl, rfl, by simp, hoa, by simp; omega, hll'⟩
      · refine ⟨_, index_str hg, _, eqlI _ _ _, splitB_bool (fun _ => ?_) fun _ => ?_⟩
        · refine ⟨_, add1' (by omega), _, _, r100 s (j + 1) H, _, eqlI _ _ _, splitB_bool (fun he => ?_) fun _ => ?_⟩
          · have h2 : j + 1 < s.length := by
              have he : oneZ s (j + 1) = 10 := by simpa using he
              exact oneZ_in (by omega)
            refine ⟨_, add1' (by omega), Eq.mpr (hka _) ?_⟩
            exact ⟨_, add1' (by omega), n - 2, by omega, j + 1 + 1, [], _, by omega, by omega, rfl, rfl, by simp, hoa, by simp; omega, hll'⟩
          · rw [hka]
            exact ⟨_, add1' (by omega), n - 1, by omega, j + 1, [], _, by omega, by omega, rfl, rfl, by simp, hoa, by simp; omega, hll'⟩
        · rw [hka]
          exact ⟨_, add1' (by omega), n - 1, by omega, j + 1, [], _, by omega, by omega, rfl, rfl, by simp, hoa, by simp; omega, hll'⟩
      · obtain ⟨_, ⟨r, m, rfl, hm⟩, hr⟩ := r94 s j (by omega) H
        refine ⟨_, _, hr, _, rfl, _, rfl, _, eqlI _ _ _, splitB_bool (fun h => fin (n := 0) (.inl rfl)) fun h => ?_⟩
        have h0 : m ≠ 0 := by rintro rfl; simp at h
        have hm := hm.resolve_left h0
        have tl : (List.drop j (List.take (j + m) s)).length = m := by simp; omega
        refine ⟨_, lssI _ _ _, splitB_bool (fun h => ⟨_, neqI _ _ _, splitB_bool (fun h => fin (n := 0) (.inl rfl)) fun h => ?_⟩) fun h => ?_⟩
        · exact ⟨_, addK (by omega), _, slice_mid (by omega) (by omega), _, catS (by omega), _, addK (by omega), n - m, by omega, j + m, _, ls, by omega, by omega, rfl, rfl, by rw [List.length_append, tl]; omega, ho, by omega, hll⟩
        · exact ⟨_, addK (by omega), _, slice_mid (by omega) (by omega), _, catS (by omega), _, addK (by omega), n - m, by omega, j + m, _, ls, by omega, by omega, rfl, rfl, by rw [List.length_append, tl]; omega, ho, by omega, hll⟩
  · refine ⟨_, index_str hg, _, eqlI _ _ _, splitB_bool (fun _ => ?_) fun _ => ⟨_, index_str hg, _, eqlI _ _ _, splitB_bool (fun _ => ?_) fun _ => ?_⟩⟩
    · refine ⟨_, index_str hg, _, eqlI _ _ _, splitB_bool (fun _ => ?_) fun _ => ?_⟩
      · refine ⟨_, add1' (by omega), _, _, r100 s (j + 1) H, _, eqlI _ _ _, splitB_bool (fun he => ?_) fun _ => ?_⟩
        · have h2 : j + 1 < s.length := by
            have he : oneZ s (j + 1) = 10 := by simpa using he
            exact oneZ_in (by omega)
          refine ⟨_, add1' (by omega), Eq.mpr (hka _) ?_⟩
          exact ⟨_, add1' (by omega), n - 2, by omega, j + 1 + 1, [], _, by omega, by omega, rfl, rfl, by simp, hoa, by simp; omega, hll'⟩
        · rw [hka]
          exact ⟨_, add1' (by omega), n - 1, by omega, j + 1, [], _, by omega, by omega, rfl, rfl, by simp, hoa, by simp; omega, hll'⟩
      · rw [hka]
        exact ⟨_, add1' (by omega), n - 1, by omega, j + 1, [], _, by omega, by omega, rfl, rfl, by simp, hoa, by simp; omega, hll'⟩
    · refine ⟨_, index_str hg, _, eqlI _ _ _, splitB_bool (fun _ => ?_) fun _ => ?_⟩
      · refine ⟨_, add1' (by omega), _, _, r100 s (j + 1) H, _, eqlI _ _ _, splitB_bool (fun he => ?_) fun _ => ?_⟩
        · have h2 : j + 1 < s.length := by
            have he : oneZ s (j + 1) = 10 := by simpa using he
            exact oneZ_in (by omega)
          refine ⟨_, add1' (by omega), Eq.mpr (hka _) ?_⟩
          exact ⟨_, add1' (by omega), n - 2, by omega, j + 1 + 1, [], _, by omega, by omega, rfl, rfl, by simp, hoa, by simp; omega, hll'⟩
        · rw [hka]
          exact ⟨_, add1' (by omega), n - 1, by omega, j + 1, [], _, by omega, by omega, rfl, rfl, by simp, hoa, by simp; omega, hll'⟩
      · rw [hka]
        exact ⟨_, add1' (by omega), n - 1, by omega, j + 1, [], _, by omega, by omega, rfl, rfl, by simp, hoa, by simp; omega, hll'⟩
    · obtain ⟨_, ⟨r, m, rfl, hm⟩, hr⟩ := r94 s j (by omega) H
      refine ⟨_, _, hr, _, rfl, _, rfl, _, eqlI _ _ _, splitB_bool (fun h => fin (n := 0) (.inl rfl)) fun h => ?_⟩
      have h0 : m ≠ 0 := by rintro rfl; simp at h
      have hm := hm.resolve_left h0
      have tl : (List.drop j (List.take (j + m) s)).length = m := by simp; omega
      refine ⟨_, lssI _ _ _, splitB_bool (fun h => ⟨_, neqI _ _ _, splitB_bool (fun h => fin (n := 0) (.inl rfl)) fun h => ?_⟩) fun h => ?_⟩
      · exact ⟨_, addK (by omega), _, slice_mid (by omega) (by omega), _, catS (by omega), _, addK (by omega), n - m, by omega, j + m, _, ls, by omega, by omega, rfl, rfl, by rw [List.length_append, tl]; omega, ho, by omega, hll⟩
      · exact ⟨_, addK (by omega), _, slice_mid (by omega) (by omega), _, catS (by omega), _, addK (by omega), n - m, by omega, j + m, _, ls, by omega, by omega, rfl, rfl, by rw [List.length_append, tl]; omega, ho, by omega, hll⟩
end Go.AM.T

/- Contracts: a token. -/
namespace Go.AM.T
set_option linter.unusedVariables false
set_option linter.unusedSimpArgs false
set_option maxRecDepth 100000

/-- Without ! [ ]. -/
def Cl (t : Str) : Prop := ∀ c ∈ t, c ≠ 33 ∧ c ≠ 91 ∧ c ≠ 93
theorem Cl.nil : Cl [] := fun _ h => by cases h
def TokOk (v : AV) : Prop := ∃ (k : Int) (t : Str) (p : Int), v = .agg [I k, .str t, I p] ∧ (k = 1 → Cl t ∧ t.length ≤ 5000)
def NextOk (s : Str) (i : Nat) (v : AV) : Prop := ∃ (tk : AV) (n : Nat), v = .tup [tk, I ↑n] ∧ TokOk tk ∧ (n = 0 ∨ (i < n ∧ n ≤ s.length))
theorem Pub.tok {fr : Bool} {H : Heap} {k p : Int} {t : Str} : Pub fr H (.agg [I k, .str t, I p]) (.agg [I k, .str t, I p]) := Pub.agg (.cons (.scalar rfl) (.cons (.scalar rfl) (.cons (.scalar rfl) .nil)))
theorem not33 {c : UInt8} (h : letterB c.toNat = true ∨ digitB c.toNat = true) : c ≠ 33 ∧ c ≠ 91 ∧ c ≠ 93 := by
  refine ⟨?_, ?_, ?_⟩ <;> (rintro rfl; revert h; decide)
theorem mem_mid {s : Str} {i j : Nat} (h : ∀ x c, i ≤ x → x < j → s[x]? = some c → c ≠ 33 ∧ c ≠ 91 ∧ c ≠ 93) : Cl ((s.take j).drop i) := by
  intro c hm
  obtain ⟨x, hx⟩ := List.mem_iff_getElem?.1 hm
  rw [List.getElem?_drop] at hx
  have hlt : i + x < j := by
    rcases Nat.lt_or_ge (i + x) j with q | q
    · exact q
    · rw [List.getElem?_eq_none (by simp; omega)] at hx; cases hx
  rw [List.getElem?_take_of_lt hlt] at hx
  exact h (i + x) c (by omega) hlt hx
theorem r84 (s : Str) (hl : s.length ≤ 4096) (i : Nat) (hi : i < s.length) (H : Heap) : ∃ v', NextOk s i v' ∧ Ret env 84 [.str s, I ↑i] H v' H := by
  refine Ret.isoQ (f := c84) rfl rfl rfl (PubL.plain rfl) (Eq.mpr (x84 _ _ _ _ _) ?_)
  have hs : Short s := by simp only [Short]; omega
  have hg := List.getElem?_eq_getElem hi
  have fin : ∀ {k p : Int} {t : Str} {n : Nat} {fr} {H : Heap}, (k = 1 → Cl t ∧ t.length ≤ 5000) → (n = 0 ∨ (i < n ∧ n ≤ s.length)) → ∃ v, Pub fr H (.tup [.agg [I k, .str t, I p], I ↑n]) v ∧ NextOk s i v :=
    fun {k p t n _ _} h1 h2 => ⟨_, Pub.tup (.cons Pub.tok (.cons (.scalar rfl) .nil)), _, n, rfl, ⟨k, t, p, rfl, h1⟩, h2⟩
  refine ⟨rfl, _, rfl, rfl, _, rfl, _, index_str hg, _, _, r33 _ [.cells [I 0, .str [], I 0], .cells [I 0, .str [], I ↑i]], splitB_bool (fun hlet => ?_) fun _ => ?_⟩
  · -- a name
    refine ⟨fun n f H => ∃ j : Nat, j + n = s.length ∧ f 8 = I ↑j ∧ i ≤ j ∧ H = [.cells [I 0, .str [], I 0], .cells [I 0, .str [], I ↑i]] ∧ ∀ x c, i ≤ x → x < j → s[x]? = some c → c ≠ 33 ∧ c ≠ 91 ∧ c ≠ 93, ⟨s.length - i, i, by omega, rfl, Nat.le_refl _, rfl, by omega⟩, ?_⟩
    rintro n f H ⟨j, hj, h8, hij, rfl, hx⟩
    rw [h8]
    refine ⟨_, rfl, _, lssI _ _ _, splitB_bool (fun h => ?_) fun h => ?_⟩
    · have h : j < s.length := by simpa using h
      have hg2 := List.getElem?_eq_getElem h
      have nx : (letterB (s[j]).toNat = true ∨ digitB (s[j]).toNat = true) → ∀ x c, i ≤ x → x < j + 1 → s[x]? = some c → c ≠ 33 ∧ c ≠ 91 ∧ c ≠ 93 := by
        intro hc x c h1 h2 h3
        rcases Nat.lt_or_ge x j with q | q
        · exact hx x c h1 q h3
        · have : x = j := by omega
          subst this
          rw [hg2] at h3
          rw [← Option.some.inj h3]
          exact not33 hc
      refine ⟨_, index_str hg2, _, _, r33 _ _, splitB_bool (fun hc => ?_) fun hc1 => ⟨_, index_str hg2, _, _, r34 _ _, splitB_bool (fun hc => ?_) fun hc => ?_⟩⟩
      · exact ⟨_, add1' (by omega), n - 1, by omega, j + 1, by omega, rfl, by omega, rfl, nx (.inl hc)⟩
      · exact ⟨_, add1' (by omega), n - 1, by omega, j + 1, by omega, rfl, by omega, rfl, nx (.inr hc)⟩
      · have hne : j ≠ i := by rintro rfl; rw [hlet] at hc1; simp at hc1
        refine ⟨_, rfl, _, rfl, ?_⟩
        have hn : j = 0 ∨ (i < j ∧ j ≤ s.length) := .inr ⟨by omega, by omega⟩
        have hk : (1 : Int) = 1 → Cl ((s.take j).drop i) ∧ ((s.take j).drop i).length ≤ 5000 := fun _ => ⟨mem_mid hx, by simp; omega⟩
        exact ⟨_, gtrI _ _ _, splitB_bool (fun h => ⟨_, slice_mid (by omega) (by omega), _, rfl, _, rfl, _, rfl, _, rfl, _, rfl, fin (n := j) hk hn⟩) fun h => ⟨_, rfl, _, rfl, _, rfl, fin (n := j) (fun _ => ⟨Cl.nil, by simp⟩) hn⟩⟩
    · have h : ¬ j < s.length := by simpa using h
      refine ⟨_, rfl, _, rfl, ?_⟩
      have hn : j = 0 ∨ (i < j ∧ j ≤ s.length) := .inr ⟨by omega, by omega⟩
      have hk : (1 : Int) = 1 → Cl ((s.take j).drop i) ∧ ((s.take j).drop i).length ≤ 5000 := fun _ => ⟨mem_mid hx, by simp; omega⟩
      exact ⟨_, gtrI _ _ _, splitB_bool (fun h => ⟨_, slice_mid (by omega) (by omega), _, rfl, _, rfl, _, rfl, _, rfl, _, rfl, fin (n := j) hk hn⟩) fun h => ⟨_, rfl, _, rfl, _, rfl, fin (n := j) (fun _ => ⟨Cl.nil, by simp⟩) hn⟩⟩
  · refine ⟨_, eqlI _ _ _, splitB_bool (fun _ => ?_) fun _ => ?_⟩
    · obtain ⟨_, ⟨k, m, rfl, hk, hm⟩, hr⟩ := r95 s hl i hi [.cells [I 0, .str [], I 0], .cells [I 0, .str [], I ↑i]]
      refine ⟨_, _, hr, _, rfl, _, rfl, _, rfl, _, rfl, ?_⟩
      exact ⟨_, gtrI _ _ _, splitB_bool (fun h => ⟨_, slice_mid (by have := of_decide_eq_true h; omega) (by have := of_decide_eq_true h; omega), _, rfl, _, rfl, _, rfl, _, rfl, _, rfl, fin (n := m) (fun e => absurd e hk) hm⟩) fun h => ⟨_, rfl, _, rfl, _, rfl, fin (n := m) (fun _ => ⟨Cl.nil, by simp⟩) hm⟩⟩
    · refine ⟨_, _, r34 _ _, splitB_bool (fun _ => ?_) fun _ => ?_⟩
      · obtain ⟨_, ⟨k, m, rfl, hk, hm⟩, hr⟩ := r95 s hl i hi [.cells [I 0, .str [], I 0], .cells [I 0, .str [], I ↑i]]
        refine ⟨_, _, hr, _, rfl, _, rfl, _, rfl, _, rfl, ?_⟩
        exact ⟨_, gtrI _ _ _, splitB_bool (fun h => ⟨_, slice_mid (by have := of_decide_eq_true h; omega) (by have := of_decide_eq_true h; omega), _, rfl, _, rfl, _, rfl, _, rfl, _, rfl, fin (n := m) (fun e => absurd e hk) hm⟩) fun h => ⟨_, rfl, _, rfl, _, rfl, fin (n := m) (fun _ => ⟨Cl.nil, by simp⟩) hm⟩⟩
      · obtain ⟨_, ⟨q, rfl, hq⟩, hr⟩ := r96 s hs i (by omega) (by omega) [.cells [I 0, .str [], I 0], .cells [I 0, .str [], I ↑i]]
        refine ⟨_, _, hr, splitB_bool (fun hq' => ?_) fun _ => ?_⟩
        · obtain ⟨_, ⟨t, m, rfl, hm⟩, hr2⟩ := r97 s hl i (hq hq') [.cells [I 0, .str [], I 0], .cells [I 4, .str [], I ↑i]]
          exact ⟨_, rfl, _, rfl, _, _, hr2, _, rfl, _, rfl, _, rfl, _, rfl, _, rfl, _, rfl, _, rfl, fin (n := m) (by simp) hm⟩
        · refine ⟨_, eqlI _ _ _, splitB_bool (fun _ => ?_) fun _ => ?_⟩
          · obtain ⟨_, ⟨t, m, rfl, hm⟩, hr2⟩ := r98 s hl i hi [.cells [I 0, .str [], I 0], .cells [I 4, .str [], I ↑i]]
            exact ⟨_, rfl, _, rfl, _, _, hr2, _, rfl, _, rfl, _, rfl, _, rfl, _, rfl, _, rfl, _, rfl, fin (n := m) (by simp) hm⟩
          · refine ⟨_, add3 (by omega), _, rfl, _, leqI _ _ _, splitB_bool (fun hle => ?_) fun _ => ?_⟩
            · have hle : i + 3 ≤ s.length := by have := of_decide_eq_true hle; omega
              refine ⟨_, add3 (by omega), _, slice_mid (by omega) (by omega), _, eqlS _ _, splitB_bool (fun _ => ?_) fun _ => ?_⟩
              · refine ⟨_, rfl, _, rfl, _, add3 (by omega), ?_⟩
                have hm : i + 3 = 0 ∨ (i < i + 3 ∧ i + 3 ≤ s.length) := .inr ⟨by omega, by omega⟩
                exact ⟨_, gtrI _ _ _, splitB_bool (fun h => ⟨_, slice_mid (by omega) (by omega), _, rfl, _, rfl, _, rfl, _, rfl, _, rfl, fin (n := i + 3) (by simp) hm⟩) fun h => ⟨_, rfl, _, rfl, _, rfl, fin (n := i + 3) (fun _ => ⟨Cl.nil, by simp⟩) hm⟩⟩
              · refine ⟨fun n f H => ∃ (j e : Nat) (k : Int), j + n = 13 ∧ f 10 = I ↑j ∧ f 8 = I ↑e ∧ H = [.cells [I 0, .str [], I 0], .cells [I k, .str [], I ↑i]] ∧ k ≠ 1 ∧ (e = 0 ∨ e = i + 1), ⟨13, 0, 0, 0, by omega, rfl, rfl, rfl, by decide, .inl rfl⟩, ?_⟩
                rintro n f H ⟨j, e, k, hj, h10, h8, rfl, hk, he⟩
                rw [h10, h8]
                refine ⟨_, rfl, _, lssI _ _ _, splitB_bool (fun h => ?_) fun h => ?_⟩
                · have h : j < 13 := by have : (j : Int) < 13 := of_decide_eq_true h
                                        omega
                  obtain ⟨c, hc⟩ : ∃ c, ([33, 36, 38, 40, 41, 58, 61, 64, 91, 93, 123, 124, 125] : Str)[j]? = some c := ⟨_, List.getElem?_eq_getElem (by simpa using h)⟩
                  refine ⟨_, index_str hc, _, eqlI _ _ _, splitB_bool (fun _ => ?_) fun _ => ?_⟩
                  · exact ⟨_, rfl, _, rfl, _, add1' (by omega), _, add1' (by omega), n - 1, by omega, j + 1, i + 1, 5, by omega, rfl, rfl, rfl, by decide, .inr rfl⟩
                  · exact ⟨_, add1' (by omega), n - 1, by omega, j + 1, e, k, by omega, rfl, rfl, rfl, hk, he⟩
                · have hm : e = 0 ∨ (i < e ∧ e ≤ s.length) := by omega
                  exact ⟨_, gtrI _ _ _, splitB_bool (fun h => ⟨_, slice_mid (by have := of_decide_eq_true h; omega) (by have := of_decide_eq_true h; omega), _, rfl, _, rfl, _, rfl, _, rfl, _, rfl, fin (n := e) (fun q => absurd q hk) hm⟩) fun h => ⟨_, rfl, _, rfl, _, rfl, fin (n := e) (fun _ => ⟨Cl.nil, by simp⟩) hm⟩⟩
            · refine ⟨fun n f H => ∃ (j e : Nat) (k : Int), j + n = 13 ∧ f 10 = I ↑j ∧ f 8 = I ↑e ∧ H = [.cells [I 0, .str [], I 0], .cells [I k, .str [], I ↑i]] ∧ k ≠ 1 ∧ (e = 0 ∨ e = i + 1), ⟨13, 0, 0, 0, by omega, rfl, rfl, rfl, by decide, .inl rfl⟩, ?_⟩
              rintro n f H ⟨j, e, k, hj, h10, h8, rfl, hk, he⟩
              rw [h10, h8]
              refine ⟨_, rfl, _, lssI _ _ _, splitB_bool (fun h => ?_) fun h => ?_⟩
              · have h : j < 13 := by have : (j : Int) < 13 := of_decide_eq_true h
                                      omega
                obtain ⟨c, hc⟩ : ∃ c, ([33, 36, 38, 40, 41, 58, 61, 64, 91, 93, 123, 124, 125] : Str)[j]? = some c := ⟨_, List.getElem?_eq_getElem (by simpa using h)⟩
                refine ⟨_, index_str hc, _, eqlI _ _ _, splitB_bool (fun _ => ?_) fun _ => ?_⟩
                · exact ⟨_, rfl, _, rfl, _, add1' (by omega), _, add1' (by omega), n - 1, by omega, j + 1, i + 1, 5, by omega, rfl, rfl, rfl, by decide, .inr rfl⟩
                · exact ⟨_, add1' (by omega), n - 1, by omega, j + 1, e, k, by omega, rfl, rfl, rfl, hk, he⟩
              · have hm : e = 0 ∨ (i < e ∧ e ≤ s.length) := by omega
                exact ⟨_, gtrI _ _ _, splitB_bool (fun h => ⟨_, slice_mid (by have := of_decide_eq_true h; omega) (by have := of_decide_eq_true h; omega), _, rfl, _, rfl, _, rfl, _, rfl, _, rfl, fin (n := e) (fun q => absurd q hk) hm⟩) fun h => ⟨_, rfl, _, rfl, _, rfl, fin (n := e) (fun _ => ⟨Cl.nil, by simp⟩) hm⟩⟩
end Go.AM.T

/- Contracts: a text's tokens. -/
namespace Go.AM.T
set_option linter.unusedVariables false
set_option linter.unusedSimpArgs false
set_option maxRecDepth 100000

abbrev Tk := Int × Str × Int
abbrev tkA (x : Tk) : AV := .agg [I x.1, .str x.2.1, I x.2.2]
def tkOk (x : Tk) : Prop := x.1 = 1 → Cl x.2.1 ∧ x.2.1.length ≤ 5000
def tkC (ts : List Tk) : List AV := (ts.map fun x => [I x.1, .str x.2.1, I x.2.2]).flatten
theorem tkC_len (ts : List Tk) : (tkC ts).length = ts.length * 3 := by
  induction ts with
  | nil => rfl
  | cons x r ih => simp only [tkC, List.map_cons, List.flatten_cons, List.length_append, List.length_cons] at *; rw [ih]; simp; omega
theorem tkC_append (a b : List Tk) : tkC (a ++ b) = tkC a ++ tkC b := by simp [tkC]
theorem tkC_scalar (ts : List Tk) : ∀ v ∈ tkC ts, v.scalar = true := by
  intro v hv
  simp only [tkC, List.mem_flatten, List.mem_map] at hv
  obtain ⟨l, ⟨x, _, rfl⟩, h⟩ := hv
  simp only [List.mem_cons, List.not_mem_nil, or_false] at h
  rcases h with rfl | rfl | rfl <;> rfl
/-- A list of tokens that is being made. -/
def OutK (v : AV) (H : Heap) (ts : List Tk) : Prop := (v = .nils ∧ ts = []) ∨ ∃ b, v = .sl b 0 ts.length (some 3) ∧ H[b]? = some (.arr 3 0 0 (tkC ts)) ∧ 0 < ts.length
theorem OutK.grow {v : AV} {H : Heap} {ts : List Tk} (h : OutK v H ts) (X : Heap) : OutK v (H ++ X) ts := by
  rcases h with h | ⟨b, h1, h2, h3⟩
  · exact .inl h
  · exact .inr ⟨b, h1, getElem?_grow h2 X, h3⟩
theorem OutK.set {v : AV} {H : Heap} {ts : List Tk} (h : OutK v H ts) {c : Nat} (x : Blk) {cs : List AV} (hc : H[c]? = some (.cells cs)) : OutK v (H.set c x) ts := by
  rcases h with h | ⟨b, h1, h2, h3⟩
  · exact .inl h
  · refine .inr ⟨b, h1, ?_, h3⟩
    rw [List.getElem?_set_ne, h2]
    rintro rfl
    rw [hc] at h2; cases h2
theorem OutK.len {v : AV} {H : Heap} {ts : List Tk} (h : OutK v H ts) (H2 : Heap) : lenA H2 .sl v = some (I ↑ts.length) := by
  rcases h with ⟨rfl, rfl⟩ | ⟨b, rfl, _⟩ <;> rfl
theorem OutK.pub {fr : Bool} {v : AV} {H : Heap} {ts : List Tk} (h : OutK v H ts) (h0 : ts ≠ []) : Pub fr H v (.data (ts.map tkA)) := by
  rcases h with ⟨rfl, rfl⟩ | ⟨b, rfl, hb, _⟩
  · exact absurd rfl h0
  · refine Pub.sl hb rfl (by rw [tkC_len]; simp) (cs' := tkC ts) (xs := ts.map tkA) ?_ ?_
    · have : (tkC ts).take (ts.length * 3) = tkC ts := by rw [← tkC_len, List.take_length]
      simp only [List.drop_zero, szOf]
      rw [this]
      exact PubLF.scalars (tkC_scalar ts)
    · have := chunk_some 3 (ts.map fun x => [I x.1, .str x.2.1, I x.2.2]) (by intro l hl; obtain ⟨x, _, rfl⟩ := List.mem_map.1 hl; rfl)
      simpa [tkC, Function.comp_def] using this
theorem slK (x : Tk) (H : Heap) (K) : sliceP (some 3) 0 1 [I 0, .str [], I 0] [(0, 3, tkA x)] H K = K (.sl H.length 0 1 (some 3)) (H ++ [Blk.arr 3 0 0 (tkC [x])]) := by
  refine propext ⟨?_, fun h => ⟨_, rfl, h⟩⟩
  rintro ⟨cs, h1, h2⟩
  cases h1
  exact h2
theorem appK {v : AV} {H : Heap} {ts : List Tk} (h : OutK v H ts) (x : Tk) (hl : ts.length ≤ 10000) :
    ∃ v' H', OutK v' H' (ts ++ [x]) ∧ ∀ K : AV → Heap → AV → Heap → Prop, sliceP (some 3) 0 1 [I 0, .str [], I 0] [(0, 3, tkA x)] H (fun v1 h1 => get2 (appA (some 3) 0 32 v v1 h1) (K v1 h1)) = K (.sl H.length 0 1 (some 3)) (H ++ [Blk.arr 3 0 0 (tkC [x])]) v' H' := by
  rcases h with ⟨rfl, rfl⟩ | ⟨b, rfl, hb, hp⟩
  · refine ⟨.sl (H.length + 1) 0 1 (some 3), H ++ [Blk.arr 3 0 0 (tkC [x])] ++ [Blk.arr 3 0 0 (tkC [x])], .inr ⟨H.length + 1, rfl, by simp, by simp⟩, ?_⟩
    intro K
    have e : appA (some 3) 0 32 .nils (.sl H.length 0 1 (some 3)) (H ++ [Blk.arr 3 0 0 (tkC [x])]) = some (.sl (H.length + 1) 0 1 (some 3), H ++ [Blk.arr 3 0 0 (tkC [x])] ++ [Blk.arr 3 0 0 (tkC [x])]) := by
      simp [appA, elemsOf, szOf, appendA, tkC]
    rw [slK, e, get2_some]
  · refine ⟨.sl (H.length + 1) 0 (ts ++ [x]).length (some 3), (H ++ [Blk.arr 3 0 0 (tkC [x])]).set b .dead ++ [Blk.arr 3 0 0 (tkC (ts ++ [x]))], .inr ⟨H.length + 1, rfl, by rw [List.getElem?_append_right (by simp)]; simp, by simp⟩, ?_⟩
    intro K
    have e : appA (some 3) 0 32 (.sl b 0 ts.length (some 3)) (.sl H.length 0 1 (some 3)) (H ++ [Blk.arr 3 0 0 (tkC [x])]) = some (.sl (H.length + 1) 0 (ts ++ [x]).length (some 3), (H ++ [Blk.arr 3 0 0 (tkC [x])]).set b .dead ++ [Blk.arr 3 0 0 (tkC (ts ++ [x]))]) := by
      have h1 : (ts.length + 1) * 32 ≤ 140737488355328 := by omega
      have h2 : ts.length + 1 < 9223372036854775808 := by omega
      have e1 : List.take (ts.length * 3) (tkC ts) = tkC ts := by rw [← tkC_len, List.take_length]
      have e2 : ts.length * 3 ≤ (tkC ts).length := by rw [tkC_len]; exact Nat.le_refl _
      have e3 : List.take 3 (tkC [x]) = tkC [x] := rfl
      have e4 : (tkC [x]).length = 3 := rfl
      simp [appA, elemsOf, szOf, appendA, getElem?_grow hb, h1, h2, e1, e2, e3, e4, tkC_append]
    rw [slK, e, get2_some]
abbrev Good (ts : List Tk) (i : Nat) : Prop := i < ts.length ∧ ts.length ≤ 2000 ∧ (∀ x ∈ ts, tkOk x) ∧ ∃ l, ts.getLast? = some l ∧ l.1 = 0
def LexOk (v : AV) : Prop := (∃ at' code : Int, v = .tup [.nils, I at', I code] ∧ code ≠ 0) ∨ ∃ ts : List Tk, v = .tup [.data (ts.map tkA), I 0, I 0] ∧ Good ts 0
theorem r57 (s : Str) (H : Heap) : ∃ v', LexOk v' ∧ Ret env 57 [.str s] H v' H := by
  refine Ret.isoQ (f := c57) rfl rfl rfl (PubL.plain rfl) (Eq.mpr (x57 _ _ _ _) ?_)
  have bad : ∀ {a c : Int} {fr} {H : Heap}, c ≠ 0 → ∃ v, Pub fr H (.tup [.nils, I a, I c]) v ∧ LexOk v := fun {a c _ _} h => ⟨_, Pub.tup (.cons (.scalar rfl) (.cons (.scalar rfl) (.cons (.scalar rfl) .nil))), .inl ⟨a, c, rfl, h⟩⟩
  refine ⟨_, rfl, _, gtrI _ _ _, splitB_bool (fun _ => bad (by decide)) fun h => ?_⟩
  have hl : s.length ≤ 4096 := by have := of_decide_eq_false h; omega
  refine ⟨fun n f H => ∃ (j : Nat) (ts : List Tk), j + n = s.length ∧ f 6 = I ↑j ∧ OutK (f 5) H ts ∧ ts.length ≤ 1500 ∧ ∀ x ∈ ts, tkOk x, ⟨s.length, 0, [], by omega, rfl, .inl ⟨rfl, rfl⟩, by simp, by simp⟩, ?_⟩
  rintro n f H ⟨j, ts, hj, h6, ho, hn, hok⟩
  rw [h6]
  obtain ⟨_, ⟨k, q, rfl, hk1, hk2⟩, hr⟩ := r83 s hl j (by omega) H
  refine ⟨_, _, hr, _, rfl, _, rfl, _, rfl, splitB_bool (fun _ => bad (by decide)) fun _ => ?_⟩
  refine ⟨_, rfl, _, eqlI _ _ _, splitB_bool (fun _ => ?_) fun he => ?_⟩
  · refine ⟨[I 0, .str [], I ↑k], rfl, ?_⟩
    obtain ⟨va, Ha, hoa, hka⟩ := appK ho (0, [], ↑k) (by omega)
    rw [hka]
    refine ⟨_, Pub.tup (.cons (hoa.pub (by simp)) (.cons (.scalar rfl) (.cons (.scalar rfl) .nil))), .inr ⟨_, rfl, by simp, by simp; omega, ?_, (0, [], ↑k), by simp, rfl⟩⟩
    intro x hx
    rcases List.mem_append.1 hx with hx | hx
    · exact hok x hx
    · have : x = (0, [], ↑k) := by simpa using hx
      subst this; intro e; simp at e
  · have hne : k ≠ s.length := by rintro rfl; simp at he
    obtain ⟨_, ⟨_, e, rfl, ⟨kk, t, p, rfl, htk⟩, hee⟩, hr2⟩ := r84 s hl k (by omega) H
    refine ⟨_, _, hr2, _, rfl, _, rfl, rfl, ?_⟩
    have hb : (H ++ [Blk.cells (AV.agg [I 0, .str [], I 0]).cells])[H.length]? = some (.cells [I 0, .str [], I 0]) := by simp [AV.cells]
    refine ⟨_, store_cells0 hb rfl rfl rfl, _, eqlI _ _ _, splitB_bool (fun _ => bad (by decide)) fun he0 => ?_⟩
    have he0 : e ≠ 0 := by rintro rfl; simp at he0
    have hee := hee.resolve_left he0
    refine ⟨_, ho.len _, _, geqI _ _ _, splitB_bool (fun _ => bad (by decide)) fun hlen => ?_⟩
    have hlen : ts.length < 1500 := by have := of_decide_eq_false hlen; omega
    have ho2 : OutK (f 5) ((H ++ [Blk.cells (AV.agg [I 0, .str [], I 0]).cells]).set H.length (.cells [I kk, .str t, I p])) ts := by
      rw [set_last]; exact ho.grow _
    obtain ⟨va, Ha, hoa, hka⟩ := appK ho2 (kk, t, p) (by omega)
    refine ⟨_, load_cells0 (cs := [I kk, .str t, I p]) (by rw [set_last]; simp) rfl, Eq.mpr (hka _) ?_⟩
    refine ⟨n - (e - j), by omega, e, _, by omega, rfl, hoa, by simp; omega, ?_⟩
    intro x hx
    rcases List.mem_append.1 hx with hx | hx
    · exact hok x hx
    · have : x = (kk, t, p) := by simpa using hx
      subst this; exact htk
end Go.AM.T

/- Contracts: the reference's reading of a type. -/
namespace Go.AM.T
set_option linter.unusedVariables false
set_option linter.unusedSimpArgs false
set_option maxRecDepth 100000

abbrev St (ts : List Tk) (i : Nat) (d c a : Int) : AV := .agg [.data (ts.map tkA), I ↑i, I d, I c, I a]
theorem tks_noIds (ts : List Tk) : AV.noIdsL (ts.map tkA) = true := by
  induction ts with
  | nil => rfl
  | cons x r ih => simp [AV.noIdsL, AV.noIds, ih]
theorem St_noIds (ts : List Tk) (i : Nat) (d c a : Int) : AV.noIds (St ts i d c a) = true := by simp [AV.noIds, AV.noIdsL, tks_noIds]
theorem St1 (ts : List Tk) (i : Nat) (d c a : Int) : AV.noIdsL [St ts i d c a] = true := by simp [AV.noIds, AV.noIdsL, tks_noIds]
theorem St2 (ts : List Tk) (i : Nat) (d c a : Int) {v : AV} (h : v.scalar = true) : AV.noIdsL [St ts i d c a, v] = true := by
  cases v <;> simp_all [AV.noIds, AV.noIdsL, tks_noIds, AV.scalar]
theorem St_pub {H : Heap} (ts : List Tk) (i : Nat) (d c a : Int) : Pub false H (St ts i d c a) (St ts i d c a) := Pub.plain (St_noIds _ _ _ _ _)
section
variable {ts : List Tk} {i : Nat} {d c a : Int}
theorem r58 {x : Tk} (h : ts[i]? = some x) (d c a : Int) (H : Heap) : Ret env 58 [St ts i d c a] H (tkA x) H := by
  refine Ret.isoX (f := c58) rfl rfl rfl (PubL.plain (St1 _ _ _ _ _)) (Eq.mpr (x58 _ _ _ _) ?_)
  have h' : (ts.map tkA)[i]? = some (tkA x) := by simp [h]
  exact ⟨rfl, rfl, _, rfl, _, rfl, _, rfl, _, rfl, _, (SLike.data (ts.map tkA)).iaddr (sh := some 3) h' (by intro y hy; obtain ⟨z, _, rfl⟩ := List.mem_map.1 hy; rfl), _, rfl, _, rfl, _, rfl, Pub.tok⟩
theorem Good.at (g : Good ts i) : ts[i]? = some (ts[i]'g.1) := List.getElem?_eq_getElem g.1
theorem r59 (g : Good ts i) (d c a : Int) {k : Int} (hk : k ≠ 0) (H : Heap) : ∃ v', (∃ c' a', v' = St ts i d c' a' ∧ c' ≠ 0) ∧ Ret env 59 [St ts i d c a, I k] H v' H := by
  refine Ret.isoQ (f := c59) rfl rfl rfl (PubL.plain (St2 _ _ _ _ _ rfl)) (Eq.mpr (x59 _ _ _ _ _) ?_)
  rw [St2 _ _ _ _ _ rfl]
  refine ⟨rfl, rfl, _, rfl, _, rfl, _, eqlI _ _ _, splitB_bool (fun h => ?_) fun h => ?_⟩
  · exact ⟨_, rfl, _, rfl, _, rfl, _, _, r58 g.at d k a _, _, rfl, _, rfl, _, rfl, _, rfl, _, rfl, _, rfl, _, St_pub ts i d k _, _, _, rfl, hk⟩
  · exact ⟨_, rfl, _, rfl, _, rfl, _, St_pub ts i d c a, _, _, rfl, by simpa using h⟩
theorem r65 (g : Good ts i) (d c a : Int) (H : Heap) : ∃ v', (∃ i', v' = St ts i' d c a ∧ Good ts i') ∧ Ret env 65 [St ts i d c a] H v' H := by
  refine Ret.isoQ (f := c65) rfl rfl rfl (PubL.plain (St1 _ _ _ _ _)) (Eq.mpr (x65 _ _ _ _) ?_)
  rw [St1 _ _ _ _ _]
  refine ⟨rfl, rfl, _, rfl, _, rfl, _, eqlI _ _ _, splitB_bool (fun h => ?_) fun h => ?_⟩
  · refine ⟨_, rfl, _, _, r58 g.at d c a _, _, rfl, _, neqI _ _ _, splitB_bool (fun h => ?_) fun h => ?_⟩
    · obtain ⟨g1, g2, g3, l, g4, g5⟩ := id g
      have hne : ts[i].1 ≠ 0 := by simpa using h
      have hi : i + 1 < ts.length := by
        rcases Nat.lt_or_ge (i + 1) ts.length with q | q
        · exact q
        · rw [List.getLast?_eq_getElem?, show ts.length - 1 = i by omega, List.getElem?_eq_getElem g1] at g4
          cases g4; exact absurd g5 hne
      exact ⟨_, rfl, _, rfl, _, add1' (by omega), _, rfl, _, rfl, _, rfl, _, rfl, _, rfl, _, St_pub ts (i + 1) d c a, _, rfl, hi, g2, g3, l, g4, g5⟩
    · exact ⟨_, rfl, _, rfl, _, rfl, _, St_pub ts i d c a, _, rfl, g⟩
  · exact ⟨_, rfl, _, rfl, _, rfl, _, St_pub ts i d c a, _, rfl, g⟩
def isSg (ts : List Tk) (i : Nat) (c : Int) (sg : Str) : Bool := match ts[i]? with | some x => (c == 0) && ((x.1 == 5) && (x.2.1 == sg)) | none => false
theorem isSg_at (g : Good ts i) (sg : Str) : isSg ts i c sg = ((c == 0) && (((ts[i]'g.1).1 == 5) && ((ts[i]'g.1).2.1 == sg))) := by simp [isSg, g.at]
theorem isSg_zero {sg : Str} (h : isSg ts i c sg = true) : c = 0 := by
  unfold isSg at h
  split at h
  · simp only [Bool.and_eq_true, beq_iff_eq] at h; exact h.1
  · cases h
theorem r61 (g : Good ts i) (d c a : Int) (sg : Str) (H : Heap) : Ret env 61 [St ts i d c a, .str sg] H (.bool (isSg ts i c sg)) H := by
  have hgi := g.1
  refine Ret.isoX (f := c61) rfl rfl rfl (PubL.plain (St2 _ _ _ _ _ rfl)) (Eq.mpr (x61 _ _ _ _ _) ?_)
  rw [isSg_at g]
  refine ⟨rfl, _, rfl, _, rfl, _, eqlI _ _ _, splitB_bool (fun h => ?_) fun h => ?_⟩
  · refine ⟨_, rfl, _, _, r58 g.at d c a _, _, rfl, _, eqlI _ _ _, splitB_bool (fun h2 => ?_) fun h2 => ?_⟩
    · refine ⟨_, rfl, _, _, r58 g.at d c a _, _, rfl, _, eqlS _ _, ?_⟩
      show Pub _ _ _ _
      rw [pub_bool, h, Bool.true_and]
      rw [show (ts[i].1 == 5) = true from h2, Bool.true_and]
    · show Pub _ _ _ _
      rw [pub_bool, h, Bool.true_and]
      rw [show (ts[i].1 == 5) = false from h2, Bool.false_and]
  · show Pub _ _ _ _
    rw [pub_bool, h, Bool.false_and]
theorem r86 (g : Good ts i) (d c a : Int) (H : Heap) : ∃ q : Bool, (q = true → (ts[i]'g.1).1 = 1) ∧ Ret env 86 [St ts i d c a, .str []] H (.bool q) H := by
  have : ∃ v', (∃ q : Bool, v' = .bool q ∧ (q = true → (ts[i]'g.1).1 = 1)) ∧ Ret env 86 [St ts i d c a, .str []] H v' H := by
    refine Ret.isoQ (f := c86) rfl rfl rfl (PubL.plain (St2 _ _ _ _ _ rfl)) (Eq.mpr (x86 _ _ _ _ _) ?_)
    refine ⟨rfl, _, rfl, _, rfl, _, eqlI _ _ _, splitB_bool (fun h => ?_) fun h => ⟨_, Pub.scalar rfl, _, rfl, by simp⟩⟩
    refine ⟨_, rfl, _, _, r58 g.at d c a _, _, rfl, _, eqlI _ _ _, splitB_bool (fun h2 => ?_) fun h2 => ⟨_, Pub.scalar rfl, _, rfl, by simp⟩⟩
    refine ⟨_, eqlS _ _, splitB_bool (fun _ => ⟨_, Pub.scalar rfl, _, rfl, fun _ => by simpa using h2⟩) fun h3 => by simp at h3⟩
  obtain ⟨_, ⟨q, rfl, h⟩, hr⟩ := this
  exact ⟨q, h, hr⟩
theorem r85 (g : Good ts i) (d c a : Int) (sg : Str) (H : Heap) : ∃ v', (∃ i' c' a', v' = St ts i' d c' a' ∧ Good ts i' ∧ (isSg ts i c sg = true → c' = c) ∧ (isSg ts i c sg = false → c' ≠ 0)) ∧ Ret env 85 [St ts i d c a, .str sg] H v' H := by
  refine Ret.isoQ (f := c85) rfl rfl rfl (PubL.plain (St2 _ _ _ _ _ rfl)) (Eq.mpr (x85 _ _ _ _ _) ?_)
  rw [St2 _ _ _ _ _ rfl]
  refine ⟨rfl, rfl, _, rfl, _, _, r61 g d c a sg _, splitB_bool (fun h => ?_) fun h => ?_⟩
  · obtain ⟨_, ⟨i', rfl, g'⟩, hr⟩ := r65 g d c a [.cells [.data (ts.map tkA), I ↑i, I d, I c, I a], .cells [.nils, I 0, I 0, I 0, I 0]]
    exact ⟨_, rfl, _, _, hr, _, rfl, _, rfl, _, St_pub ts i' d c a, _, _, _, rfl, g', fun _ => rfl, (fun e => by rw [h] at e; cases e)⟩
  · obtain ⟨_, ⟨c', a', rfl, hc⟩, hr⟩ := r59 g d c a (k := 41) (by decide) [.cells [.data (ts.map tkA), I ↑i, I d, I c, I a], .cells [.nils, I 0, I 0, I 0, I 0]]
    exact ⟨_, rfl, _, _, hr, _, rfl, _, rfl, _, St_pub ts i d c' a', _, _, _, rfl, g, (fun e => by rw [h] at e; cases e), fun _ => hc⟩
theorem r63 (g : Good ts i) (d c a : Int) (sg : Str) (H : Heap) : ∃ v', (∃ i' d' c' a', v' = St ts i' d' c' a' ∧ Good ts i') ∧ Ret env 63 [St ts i d c a, .str sg] H v' H := by
  refine Ret.isoQ (f := c63) rfl rfl rfl (PubL.plain (St2 _ _ _ _ _ rfl)) (Eq.mpr (x63 _ _ _ _ _) ?_)
  rw [St2 _ _ _ _ _ rfl]
  obtain ⟨_, ⟨i', c', a', rfl, g', _, _⟩, hr⟩ := r85 g d c a sg [.cells [.data (ts.map tkA), I ↑i, I d, I c, I a], .cells [.nils, I 0, I 0, I 0, I 0]]
  exact ⟨rfl, rfl, _, rfl, _, _, hr, _, rfl, _, rfl, _, rfl, _, subW _ _, _, rfl, _, rfl, _, rfl, _, rfl, _, rfl, _, St_pub ts i' _ c' a', _, _, _, _, rfl, g'⟩
theorem r62 (g : Good ts i) (d c a : Int) (hd : c ≠ 0 ∨ (0 ≤ d ∧ d ≤ 16)) (sg : Str) (H : Heap) : ∃ v', (∃ i' d' c' a', v' = St ts i' d' c' a' ∧ Good ts i' ∧ (c' ≠ 0 ∨ (d' = d + 1 ∧ d < 16))) ∧ Ret env 62 [St ts i d c a, .str sg] H v' H := by
  refine Ret.isoQ (f := c62) rfl rfl rfl (PubL.plain (St2 _ _ _ _ _ rfl)) (Eq.mpr (x62 _ _ _ _ _) ?_)
  rw [St2 _ _ _ _ _ rfl]
  obtain ⟨_, ⟨i', c', a', rfl, g', h1, h2⟩, hr⟩ := r85 g d c a sg [.cells [.data (ts.map tkA), I ↑i, I d, I c, I a], .cells [.nils, I 0, I 0, I 0, I 0]]
  refine ⟨rfl, rfl, _, rfl, _, _, r61 g d c a sg [.cells [.data (ts.map tkA), I ↑i, I d, I c, I a], .cells [.nils, I 0, I 0, I 0, I 0]], splitB_bool (fun h => ?_) fun h => ?_⟩
  · have hd := hd.resolve_left (fun q => q (isSg_zero h))
    refine ⟨_, rfl, _, rfl, _, geqI _ _ _, splitB_bool (fun h => ?_) fun h3 => ?_⟩
    · obtain ⟨_, ⟨c2, a2, rfl, hc⟩, hr2⟩ := r59 g d c a (k := 42) (by decide) [.cells [.data (ts.map tkA), I ↑i, I d, I c, I a], .cells [.nils, I 0, I 0, I 0, I 0]]
      exact ⟨_, rfl, _, _, hr2, _, rfl, _, rfl, _, St_pub ts i d c2 a2, _, _, _, _, rfl, g, .inl hc⟩
    · have h3 := of_decide_eq_false h3
      refine ⟨_, rfl, _, _, hr, _, rfl, _, rfl, _, rfl, _, addW _ _, _, rfl, _, rfl, _, rfl, _, rfl, _, rfl, _, St_pub ts i' _ c' a', _, _, _, _, rfl, g', .inr ⟨wrap64 (by omega) (by omega), by omega⟩⟩
  · exact ⟨_, rfl, _, _, hr, _, rfl, _, rfl, _, rfl, _, addW _ _, _, rfl, _, rfl, _, rfl, _, rfl, _, rfl, _, St_pub ts i' _ c' a', _, _, _, _, rfl, g', .inl (h2 h)⟩
theorem r64 (g : Good ts i) (d c a : Int) (H : Heap) : ∃ v', (∃ i' c' a' t, v' = .tup [St ts i' d c' a', .str t] ∧ Good ts i' ∧ Cl t ∧ t.length ≤ 5000) ∧ Ret env 64 [St ts i d c a] H v' H := by
  refine Ret.isoQ (f := c64) rfl rfl rfl (PubL.plain (St1 _ _ _ _ _)) (Eq.mpr (x64 _ _ _ _) ?_)
  rw [St1 _ _ _ _ _]
  obtain ⟨q, hq, hr⟩ := r86 g d c a [.cells [.data (ts.map tkA), I ↑i, I d, I c, I a], .cells [.nils, I 0, I 0, I 0, I 0]]
  refine ⟨rfl, rfl, _, rfl, _, _, hr, _, rfl, ?_⟩
  refine splitB_bool (fun h => ?_) fun h => ?_
  · obtain ⟨_, ⟨c2, a2, rfl, hc⟩, hr2⟩ := r59 g d c a (k := 41) (by decide) [.cells [.data (ts.map tkA), I ↑i, I d, I c, I a], .cells [.nils, I 0, I 0, I 0, I 0]]
    exact ⟨_, rfl, _, _, hr2, _, rfl, _, rfl, _, Pub.tup (.cons (St_pub ts i d c2 a2) (.cons (.scalar rfl) .nil)), _, _, _, _, rfl, g, Cl.nil, by simp⟩
  · have hk := hq (by simpa using h)
    obtain ⟨_, ⟨i', rfl, g'⟩, hr2⟩ := r65 g d c a [.cells [.data (ts.map tkA), I ↑i, I d, I c, I a], .cells [.nils, I 0, I 0, I 0, I 0]]
    have hok := g.2.2.1 (ts[i]'g.1) (List.getElem_mem g.1) hk
    refine ⟨by kernel_rfl, _, rfl, _, _, hr2, _, rfl, _, _, r58 g.at d c a _, _, rfl, _, rfl, trOk_two [1] [4] (by kernel_rfl) ?_ ?_ ?_, _, rfl, _, Pub.tup (.cons (St_pub ts i' d c a) (.cons (.scalar rfl) .nil)), _, _, _, _, rfl, g', hok⟩
    · simp
    · intro l hl t ht b hb
      simp at hl; subst hl
      simp at ht; subst ht; rfl
    · intro l hl t ht
      simp at hl; subst hl
      simp at ht; subst ht; rfl
end
end Go.AM.T

/- Contracts: a type's text, read by the reference. -/
namespace Go.AM.T
set_option linter.unusedVariables false
set_option linter.unusedSimpArgs false
set_option maxRecDepth 100000

/-- A type's text: a name, a type in brackets, either with a '!' behind. -/
inductive Ty : Str → Prop
  | name {n : Str} (h : Cl n) : Ty n
  | list {t : Str} (h : Ty t) : Ty ([91] ++ t ++ [93])
  | bang {t : Str} (h : Ty t) (hn : t.getLast? ≠ some 33) : Ty (t ++ [33])
/-- With at most one '!' at its end. -/
def NN (a : Str) : Prop := ∃ y : Str, (a = y ∨ a = y ++ [33]) ∧ y.getLast? ≠ some 33
theorem last_ne {n : Str} (h : 33 ∉ n) : n.getLast? ≠ some 33 := fun e => h (List.mem_of_getLast? e)
theorem Cl.no33 {n : Str} (h : Cl n) : 33 ∉ n := fun hm => (h _ hm).1 rfl
theorem Ty.nn {t : Str} (h : Ty t) : NN t := by
  cases h with
  | name h => exact ⟨t, .inl rfl, last_ne h.no33⟩
  | list h => exact ⟨_, .inl rfl, by rw [List.getLast?_concat]; decide⟩
  | bang h hn => exact ⟨_, .inr rfl, hn⟩
theorem Ty.inner {a : Str} (h : Ty ([91] ++ a ++ [93])) : NN a := by
  generalize e : [91] ++ a ++ [93] = t at h
  cases h with
  | name h =>
    subst e
    exact ⟨a, .inl rfl, last_ne fun hm => h.no33 (by simp [hm])⟩
  | @list t h =>
    have e1 : a = t := List.append_cancel_left (List.append_cancel_right e)
    rw [e1]; exact h.nn
  | bang h hn =>
    have := congrArg List.getLast? e
    rw [List.getLast?_concat, List.getLast?_concat] at this
    exact absurd (Option.some.inj this) (by decide)
def TypeOk (ts : List Tk) (m : Nat) (v : AV) : Prop := ∃ (i' : Nat) (d' c' a' : Int) (t : Str), v = .tup [St ts i' d' c' a', .str t] ∧ Good ts i' ∧ Ty t ∧ t.length ≤ 5010 + 3 * m
theorem r40 {ts : List Tk} : ∀ (m : Nat) {i : Nat} {d c a : Int} (g : Good ts i) (hm : m ≤ 1000) (hd : c ≠ 0 ∨ (0 ≤ d ∧ d ≤ 16 ∧ 17 ≤ d + m)) (H : Heap), ∃ v', TypeOk ts m v' ∧ Ret env 40 [St ts i d c a] H v' H := by
  intro m
  induction m with
  | zero =>
    intro i d c a g hm hd H
    refine Ret.isoQ (f := c40) rfl rfl rfl (PubL.plain (St1 _ _ _ _ _)) (Eq.mpr (x40 _ _ _ _) ?_)
    rw [St1 _ _ _ _ _]
    refine ⟨rfl, rfl, _, rfl, _, _, r61 g d c a [91] [.cells [.data (ts.map tkA), I ↑i, I d, I c, I a], .cells [.nils, I 0, I 0, I 0, I 0]], splitB_bool (fun h => ?_) fun h => ?_⟩
    · have := isSg_zero h; omega
    · obtain ⟨_, ⟨i2, c2, a2, t, rfl, g2, hcl, hl⟩, hr2⟩ := r64 g d c a [.cells [.data (ts.map tkA), I ↑i, I d, I c, I a], .cells [.nils, I 0, I 0, I 0, I 0]]
      refine ⟨_, rfl, _, _, hr2, _, rfl, _, rfl, _, rfl, _, rfl, _, _, r61 g2 d c2 a2 [33] [.cells [.data (ts.map tkA), I ↑i2, I d, I c2, I a2], .cells [.nils, I 0, I 0, I 0, I 0]], splitB_bool (fun h => ?_) fun h => ?_⟩
      · obtain ⟨_, ⟨i4, rfl, g4⟩, hr4⟩ := r65 g2 d c2 a2 [.cells [.data (ts.map tkA), I ↑i2, I d, I c2, I a2], .cells [.nils, I 0, I 0, I 0, I 0]]
        exact ⟨_, rfl, _, _, hr4, _, catS (by simp only [List.length_cons, List.length_nil]; omega), _, rfl, _, rfl, _, Pub.tup (.cons (St_pub ts i4 d c2 a2) (.cons (.scalar rfl) .nil)), _, _, _, _, _, rfl, g4, Ty.bang (Ty.name hcl) (last_ne hcl.no33), by simp only [List.length_append, List.length_cons, List.length_nil]; omega⟩
      · exact ⟨_, rfl, _, rfl, _, rfl, _, Pub.tup (.cons (St_pub ts i2 d c2 a2) (.cons (.scalar rfl) .nil)), _, _, _, _, _, rfl, g2, Ty.name hcl, by omega⟩
  | succ m ih =>
    intro i d c a g hm hd H
    refine Ret.isoQ (f := c40) rfl rfl rfl (PubL.plain (St1 _ _ _ _ _)) (Eq.mpr (x40 _ _ _ _) ?_)
    rw [St1 _ _ _ _ _]
    refine ⟨rfl, rfl, _, rfl, _, _, r61 g d c a [91] [.cells [.data (ts.map tkA), I ↑i, I d, I c, I a], .cells [.nils, I 0, I 0, I 0, I 0]], splitB_bool (fun h => ?_) fun h => ?_⟩
    · have hd := hd.resolve_left (fun q => q (isSg_zero h))
      obtain ⟨_, ⟨i1, d1, c1, a1, rfl, g1, h1⟩, hr1⟩ := r62 g d c a (.inr ⟨hd.1, hd.2.1⟩) [91] [.cells [.data (ts.map tkA), I ↑i, I d, I c, I a], .cells [.nils, I 0, I 0, I 0, I 0]]
      obtain ⟨_, ⟨i2, d2, c2, a2, t, rfl, g2, ht, hl⟩, hr2⟩ := ih g1 (by omega) (d := d1) (c := c1) (a := a1) (by omega) [.cells [.data (ts.map tkA), I ↑i, I d, I c, I a], .cells [.nils, I 0, I 0, I 0, I 0]]
      obtain ⟨_, ⟨i3, d3, c3, a3, rfl, g3⟩, hr3⟩ := r63 g2 d2 c2 a2 [93] [.cells [.data (ts.map tkA), I ↑i2, I d2, I c2, I a2], .cells [.nils, I 0, I 0, I 0, I 0]]
      refine ⟨_, rfl, _, _, hr1, _, _, hr2, _, rfl, _, rfl, _, rfl, _, rfl, _, _, hr3, _, rfl, _, catS (a := [91]) (by simp only [List.length_cons, List.length_nil]; omega), _, catS (by simp only [List.length_append, List.length_cons, List.length_nil]; omega), _, rfl, _, _, r61 g3 d3 c3 a3 [33] [.cells [.data (ts.map tkA), I ↑i3, I d3, I c3, I a3], .cells [.nils, I 0, I 0, I 0, I 0]], splitB_bool (fun h => ?_) fun h => ?_⟩
      · obtain ⟨_, ⟨i4, rfl, g4⟩, hr4⟩ := r65 g3 d3 c3 a3 [.cells [.data (ts.map tkA), I ↑i3, I d3, I c3, I a3], .cells [.nils, I 0, I 0, I 0, I 0]]
        exact ⟨_, rfl, _, _, hr4, _, catS (by simp only [List.length_append, List.length_cons, List.length_nil]; omega), _, rfl, _, rfl, _, Pub.tup (.cons (St_pub ts i4 d3 c3 a3) (.cons (.scalar rfl) .nil)), _, _, _, _, _, rfl, g4, Ty.bang (Ty.list ht) (by rw [List.getLast?_concat]; decide), by simp only [List.length_append, List.length_cons, List.length_nil]; omega⟩
      · exact ⟨_, rfl, _, rfl, _, rfl, _, Pub.tup (.cons (St_pub ts i3 d3 c3 a3) (.cons (.scalar rfl) .nil)), _, _, _, _, _, rfl, g3, Ty.list ht, by simp only [List.length_append, List.length_cons, List.length_nil]; omega⟩
    · obtain ⟨_, ⟨i2, c2, a2, t, rfl, g2, hcl, hl⟩, hr2⟩ := r64 g d c a [.cells [.data (ts.map tkA), I ↑i, I d, I c, I a], .cells [.nils, I 0, I 0, I 0, I 0]]
      refine ⟨_, rfl, _, _, hr2, _, rfl, _, rfl, _, rfl, _, rfl, _, _, r61 g2 d c2 a2 [33] [.cells [.data (ts.map tkA), I ↑i2, I d, I c2, I a2], .cells [.nils, I 0, I 0, I 0, I 0]], splitB_bool (fun h => ?_) fun h => ?_⟩
      · obtain ⟨_, ⟨i4, rfl, g4⟩, hr4⟩ := r65 g2 d c2 a2 [.cells [.data (ts.map tkA), I ↑i2, I d, I c2, I a2], .cells [.nils, I 0, I 0, I 0, I 0]]
        exact ⟨_, rfl, _, _, hr4, _, catS (by simp only [List.length_cons, List.length_nil]; omega), _, rfl, _, rfl, _, Pub.tup (.cons (St_pub ts i4 d c2 a2) (.cons (.scalar rfl) .nil)), _, _, _, _, _, rfl, g4, Ty.bang (Ty.name hcl) (last_ne hcl.no33), by simp only [List.length_append, List.length_cons, List.length_nil]; omega⟩
      · exact ⟨_, rfl, _, rfl, _, rfl, _, Pub.tup (.cons (St_pub ts i2 d c2 a2) (.cons (.scalar rfl) .nil)), _, _, _, _, _, rfl, g2, Ty.name hcl, by omega⟩
theorem r41 {ts : List Tk} {i : Nat} (g : Good ts i) (d c a : Int) (H : Heap) : ∃ v', (∃ c' a', v' = St ts i d c' a') ∧ Ret env 41 [St ts i d c a] H v' H := by
  refine Ret.isoQ (f := c41) rfl rfl rfl (PubL.plain (St1 _ _ _ _ _)) (Eq.mpr (x41 _ _ _ _) ?_)
  rw [St1 _ _ _ _ _]
  refine ⟨rfl, rfl, _, rfl, _, rfl, _, eqlI _ _ _, splitB_bool (fun h => ?_) fun h => ?_⟩
  · refine ⟨_, rfl, _, _, r58 g.at d c a _, _, rfl, _, neqI _ _ _, splitB_bool (fun h => ?_) fun h => ?_⟩
    · obtain ⟨_, ⟨c2, a2, rfl, hc⟩, hr2⟩ := r59 g d c a (k := 41) (by decide) [.cells [.data (ts.map tkA), I ↑i, I d, I c, I a], .cells [.nils, I 0, I 0, I 0, I 0]]
      exact ⟨_, rfl, _, _, hr2, _, rfl, _, rfl, _, St_pub ts i d c2 a2, _, _, rfl⟩
    · exact ⟨_, rfl, _, rfl, _, rfl, _, St_pub ts i d c a, _, _, rfl⟩
  · exact ⟨_, rfl, _, rfl, _, rfl, _, St_pub ts i d c a, _, _, rfl⟩
theorem r39 (s : Str) (H : Heap) : ∃ v', (∃ ts c a, v' = St ts 0 0 c a ∧ Good ts 0) ∧ Ret env 39 [.str s] H v' H := by
  refine Ret.isoQ (f := c39) rfl rfl rfl (PubL.plain rfl) (Eq.mpr (x39 _ _ _ _) ?_)
  obtain ⟨_, hv, hr⟩ := r57 s [.cells [.nils, I 0, I 0, I 0, I 0]]
  rcases hv with ⟨at', code, rfl, hc⟩ | ⟨ts, rfl, g⟩
  · refine ⟨rfl, _, _, hr, _, rfl, _, rfl, _, rfl, _, neqI _ _ _, splitB_bool (fun _ => ?_) fun e => absurd (by simpa using e) hc⟩
    refine ⟨_, rfl, Eq.mpr (slK (0, [], 0) _ _) ?_⟩
    have ho : OutK (.sl 1 0 1 (some 3)) [.cells [.sl 1 0 1 (some 3), I 0, I 0, I code, I at'], .arr 3 0 0 (tkC [(0, [], 0)])] [(0, [], 0)] := .inr ⟨1, rfl, rfl, by simp⟩
    refine ⟨_, rfl, _, rfl, _, rfl, _, Pub.agg (.cons (ho.pub (by simp)) (.cons (.scalar rfl) (.cons (.scalar rfl) (.cons (.scalar rfl) (.cons (.scalar rfl) .nil))))), [(0, [], 0)], code, at', rfl, by simp, by simp, ?_, _, rfl, rfl⟩
    intro x hx
    have : x = (0, [], 0) := by simpa using hx
    subst this; intro e; simp at e
  · refine ⟨rfl, _, _, hr, _, rfl, _, rfl, _, rfl, _, neqI _ _ _, splitB_bool (fun e => by simp at e) fun e => ?_⟩
    exact ⟨_, rfl, _, rfl, _, rfl, _, St_pub ts 0 0 0 0, _, _, _, rfl, g⟩
theorem r32 (s : Str) (H : Heap) : ∃ v', (∃ (t : Str) (a c : Int), v' = .tup [.str t, I a, I c] ∧ Ty t) ∧ Ret env 32 [.str s] H v' H := by
  refine Ret.isoQ (f := c32) rfl rfl rfl (PubL.plain rfl) (Eq.mpr (x32 _ _ _ _) ?_)
  obtain ⟨_, ⟨ts, c, a, rfl, g⟩, hr⟩ := r39 s []
  obtain ⟨_, ⟨i2, d2, c2, a2, t, rfl, g2, ht, hl⟩, hr2⟩ := r40 17 g (by omega) (d := 0) (c := c) (a := a) (.inr ⟨by omega, by omega, by omega⟩) []
  obtain ⟨_, ⟨c3, a3, rfl⟩, hr3⟩ := r41 g2 d2 c2 a2 [.cells [.data (ts.map tkA), I ↑i2, I d2, I c2, I a2]]
  refine ⟨_, _, hr, _, _, hr2, _, rfl, _, rfl, rfl, _, rfl, _, rfl, _, _, hr3, _, rfl, _, rfl, _, rfl, _, neqI _ _ _, splitB_bool (fun e => ?_) fun e => ?_⟩
  · exact ⟨by kernel_rfl, _, rfl, _, rfl, _, rfl, _, rfl, trOk_quiet (by simp), _, Pub.tup (.cons (.scalar rfl) (.cons (.scalar rfl) (.cons (.scalar rfl) .nil))), _, _, _, rfl, Ty.name Cl.nil⟩
  · exact ⟨_, Pub.tup (.cons (.scalar rfl) (.cons (.scalar rfl) (.cons (.scalar rfl) .nil))), _, _, _, rfl, ht⟩
theorem r16 (s : Str) (H : Heap) : ∃ q : Bool, (q = true → Ty s) ∧ Ret env 16 [.str s] H (.bool q) H := by
  have : ∃ v', (∃ q : Bool, v' = .bool q ∧ (q = true → Ty s)) ∧ Ret env 16 [.str s] H v' H := by
    refine Ret.isoQ (f := c16) rfl rfl rfl (PubL.plain rfl) (Eq.mpr (x16 _ _ _ _) ?_)
    obtain ⟨_, ⟨t, a, c, rfl, ht⟩, hr⟩ := r32 s []
    refine ⟨_, _, hr, _, rfl, _, rfl, _, rfl, _, eqlI _ _ _, splitB_bool (fun e => ?_) fun e => ⟨_, Pub.scalar rfl, _, rfl, by simp⟩⟩
    refine ⟨_, eqlS _ _, _, Pub.scalar rfl, _, rfl, fun e => ?_⟩
    have e : t = s := by simpa using e
    rw [← e]; exact ht
  obtain ⟨_, ⟨q, rfl, h⟩, hr⟩ := this
  exact ⟨q, h, hr⟩
end Go.AM.T

/- The statement on types and themselves: the A-machine answers true. -/
namespace Go.AM.T
set_option linter.unusedVariables false
set_option linter.unusedSimpArgs false
set_option maxRecDepth 100000

/-! ### The plain law -/
theorem suf_last (s : Str) (c : UInt8) : sufB s [c] = (s.getLast? == some c) := by
  rcases List.eq_nil_or_concat s with rfl | ⟨y, d, rfl⟩
  · rfl
  · rw [List.concat_eq_append, List.getLast?_concat, sufB]
    simp
theorem trim_concat (y : Str) (c : UInt8) : trimS (y ++ [c]) [c] = y := by
  have : sufB (y ++ [c]) [c] = true := by rw [suf_last, List.getLast?_concat]; simp
  rw [trimS, this]; simp
theorem trim_no {s : Str} {c : UInt8} (h : sufB s [c] = false) : trimS s [c] = s := by rw [trimS, h]; simp
theorem bang_suf (y : Str) : nonNullB (y ++ [33]) = true := by rw [nonNullB, suf_last, List.getLast?_concat]; simp
theorem NN.nullable {a : Str} (h : NN a) : nonNullB (nullableS a) = false := by
  obtain ⟨y, h1, h2⟩ := h
  have hy : nonNullB y = false := by
    rw [nonNullB, suf_last]
    cases e : y.getLast? == some (33 : UInt8) with
    | false => rfl
    | true => exact absurd (by simpa using e) h2
  rcases h1 with rfl | rfl
  · rw [nullableS, trim_no hy]; exact hy
  · rw [nullableS, trim_concat]; exact hy
theorem fits_refl (t : Tab) : ∀ (n : Nat) (a : Str), a.length = n → t.fits a a = true := by
  intro n
  induction n using Nat.strongRecOn with
  | ind n ih =>
    intro a hn
    subst hn
    rw [Tab.fits]
    by_cases h : nonNullB a = true
    · rw [dif_pos h]; exact ih _ (suf_lt h (by simp)) _ rfl
    · rw [dif_neg h]
      have h : nonNullB a = false := by simpa using h
      rw [h]
      simp only [Bool.false_eq_true, if_false]
      by_cases h2 : isList a = true
      · rw [dif_pos h2, if_pos h2]; exact ih _ (item_lt h2) _ rfl
      · rw [dif_neg h2, if_neg h2]; simp
theorem fits_nullable (t : Tab) : ∀ (n : Nat) (a : Str), a.length = n → t.fits a (nullableS a) = true := by
  intro n
  induction n using Nat.strongRecOn with
  | ind n ih =>
    intro a hn
    subst hn
    by_cases h : nonNullB a = true
    · rw [Tab.fits, dif_pos h]; exact ih _ (suf_lt h (by simp)) _ rfl
    · have h : nonNullB a = false := by simpa using h
      rw [nullableS, trim_no h]; exact fits_refl t _ a rfl
theorem fits_bang (t : Tab) (x y : Str) : t.fits (x ++ [33]) y = t.fits x (nullableS y) := by
  rw [Tab.fits, dif_pos (bang_suf x), nullableS, trim_concat]
theorem nullable_bang (y : Str) : nullableS (y ++ [33]) = y := trim_concat y 33
theorem nullable_no {y : Str} (h : nonNullB y = false) : nullableS y = y := trim_no h
theorem fits_no {t : Tab} {x y : Str} (hx : nonNullB x = false) (hy : nonNullB y = true) : t.fits x y = false := by
  rw [Tab.fits, dif_neg (by simp [hx]), if_pos hy]
theorem list_last (a : Str) : nonNullB ([91] ++ a ++ [93]) = false := by rw [nonNullB, suf_last, List.getLast?_concat]; rfl
theorem list_is (a : Str) : isList ([91] ++ a ++ [93]) = true := by rw [isList, nullable_no (list_last a), preB]; simp
theorem list_item (a : Str) : itemS ([91] ++ a ++ [93]) = a := by
  have hp : preB ([91] ++ a ++ [93]) [91] = true := by simp [preB]
  have hc : cutP ([91] ++ a ++ [93]) [91] = a ++ [93] := by rw [cutP, hp]; simp
  rw [itemS, list_is, if_pos rfl, nullable_no (list_last a), hc, trim_concat]
theorem fits_list (t : Tab) (a b : Str) : t.fits ([91] ++ a ++ [93]) ([91] ++ b ++ [93]) = t.fits a b := by
  rw [Tab.fits, dif_neg (by rw [list_last]; decide), list_last]
  simp only [Bool.false_eq_true, if_false]
  rw [dif_pos (list_is a), if_pos (list_is b), list_item, list_item]
theorem fits_base (t : Tab) (a w : Str) (h1 : 91 ∉ w) (h2 : 33 ∉ w) : t.fits ([91] ++ a ++ [93]) w = false := by
  have hw : nonNullB w = false := by
    rw [nonNullB, suf_last]
    cases e : w.getLast? == some (33 : UInt8) with
    | false => rfl
    | true => exact absurd (by simpa using e) (last_ne h2)
  have hl : isList w = false := by
    rw [isList, nullable_no hw]
    cases w with
    | nil => rfl
    | cons c r =>
      have : c ≠ 91 := by rintro rfl; exact h1 (by simp)
      simp [preB, this]
  rw [Tab.fits, dif_neg (by rw [list_last]; decide), hw]
  simp only [Bool.false_eq_true, if_false]
  rw [dif_pos (list_is a), hl]
  simp

/-! ### The reference's small ones -/
theorem r35 (s : Str) (hs : Short s) (H : Heap) : Ret env 35 [.str s] H (.bool (nonNullB s)) H := by
  refine Ret.isoX (f := c35) rfl rfl rfl (PubL.plain rfl) (Eq.mpr (x35 _ _ _ _) ?_)
  rw [nonNullB, suf_last]
  rcases List.eq_nil_or_concat s with rfl | ⟨y, d, rfl⟩
  · exact ⟨_, neqS _ _, splitB_bool (fun e => by simp at e) fun _ => Pub.scalar rfl⟩
  · rw [List.concat_eq_append] at hs ⊢
    have hl : (y ++ [d]).length = y.length + 1 := by simp
    have hg : (y ++ [d])[(y ++ [d]).length - 1]? = some d := by rw [hl]; simp
    refine ⟨_, neqS _ _, splitB_bool (fun _ => ?_) fun e => by simp at e⟩
    refine ⟨_, rfl, _, sub1 (by omega) (by simpa using hs), _, index_str hg, _, eqlI _ _ _, ?_⟩
    show Pub _ _ _ _
    rw [pub_bool, List.getLast?_concat]
    by_cases e : d = 33
    · subst e; rfl
    · have h1 : ((d.toNat : Int) == 33) = false := by
        cases q : ((d.toNat : Int) == 33) with
        | false => rfl
        | true =>
          have : d.toNat = 33 := by have : (d.toNat : Int) = 33 := by simpa using q
                                    omega
          exact absurd (UInt8.toNat_inj.1 (this.trans rfl)) e
      rw [h1]; simp [e]
theorem r17 (s : Str) (hs : Short s) (H : Heap) : Ret env 17 [.str s] H (.str (nullableS s)) H := by
  refine Ret.isoX (f := c17) rfl rfl rfl (PubL.plain rfl) (Eq.mpr (x17 _ _ _ _) ?_)
  refine ⟨_, _, r35 s hs [], splitB_bool (fun h => ?_) fun h => ?_⟩
  · have h1 : 1 ≤ s.length := by
      simp only [nonNullB, sufB, Bool.and_eq_true, decide_eq_true_eq] at h
      simpa using h.1
    refine ⟨_, rfl, _, sub1 (by omega) hs, _, slice_to (by omega), ?_⟩
    show Pub _ _ _ _
    rw [pub_str, nullableS, trimS, show sufB s [33] = true from h]
    simp
  · rw [pub_str, nullable_no h]
/-- Without the signs of a type. -/
def bareB (c : UInt8) : Bool := c != 91 && (c != 93 && c != 33)
def baseS (s : Str) : Str := s.filter bareB
theorem nat_ne {c : UInt8} {k : Nat} (hk : k < 256) (h : (c.toNat : Int) ≠ (k : Int)) : c ≠ UInt8.ofNat k := by
  rintro rfl
  apply h
  simp; omega
theorem u8_beq (c d : UInt8) : (c.toNat : Int) != (d.toNat : Int) ↔ c ≠ d := by
  simp only [bne_iff_ne, ne_eq, Int.natCast_inj]
  exact not_congr UInt8.toNat_inj
theorem u8_bne (c d : UInt8) : ((c.toNat : Int) != (d.toNat : Int)) = (c != d) := by
  rw [Bool.eq_iff_iff, u8_beq]; simp
theorem take_filter {s : Str} {j : Nat} (h : j < s.length) : (s.take (j + 1)).filter bareB = (s.take j).filter bareB ++ (if bareB s[j] then [s[j]] else []) := by
  rw [List.take_succ, List.getElem?_eq_getElem h, List.filter_append]
  congr 1
  simp [List.filter_cons]
theorem r18 (s : Str) (hs : s.length ≤ 100000) (H : Heap) : Ret env 18 [.str s] H (.str (baseS s)) H := by
  refine Ret.isoX (f := c18) rfl rfl rfl (PubL.plain rfl) (Eq.mpr (x18 _ _ _ _) ?_)
  refine ⟨fun n f H => ∃ (j : Nat), j + n = s.length ∧ f 4 = I ↑j ∧ f 3 = .str ((s.take j).filter bareB), ⟨s.length, 0, by omega, rfl, rfl⟩, ?_⟩
  rintro n f H ⟨j, hj, h4, h3⟩
  rw [h4, h3]
  have hfl : ((s.take j).filter bareB).length ≤ 100000 := Nat.le_trans (List.length_filter_le _ _) (by simp; omega)
  refine ⟨_, rfl, _, lssI _ _ _, splitB_bool (fun h => ?_) fun h => ?_⟩
  · have h : j < s.length := by simpa using h
    have hg := List.getElem?_eq_getElem h
    have tf := take_filter h
    refine ⟨_, index_str hg, _, neqI _ _ _, splitB_bool (fun e1 => ⟨_, index_str hg, _, neqI _ _ _, splitB_bool (fun e2 => ⟨_, index_str hg, _, neqI _ _ _, splitB_bool (fun e3 => ?_) fun e3 => ?_⟩) fun e2 => ?_⟩) fun e1 => ?_⟩
    · have es : (s.take (j + 1)).drop j = [s[j]] := by
        have e : s.take (j + 1) = s.take j ++ [s[j]] := by rw [List.take_succ, hg]; rfl
        rw [e]; exact List.drop_left' (by simp; omega)
      have hb : bareB s[j] = true := by
        unfold bareB
        rw [← u8_bne, ← u8_bne, ← u8_bne]
        simp only [Bool.and_eq_true]
        exact ⟨e1, e2, e3⟩
      rw [hb, if_pos rfl] at tf
      refine ⟨_, add1' (by omega), _, slice_mid (by omega) (by omega), _, catS (by rw [es]; simp only [List.length_cons, List.length_nil]; omega), _, add1' (by omega), n - 1, by omega, j + 1, by omega, rfl, ?_⟩
      rw [tf, es]; rfl
    · have hb : bareB s[j] = false := by
        have : (s[j] != 33) = false := (u8_bne _ _).symm.trans e3
        unfold bareB; rw [this]; simp
      rw [hb] at tf
      refine ⟨_, add1' (by omega), n - 1, by omega, j + 1, by omega, rfl, ?_⟩
      rw [tf]; simp
    · have hb : bareB s[j] = false := by
        have : (s[j] != 93) = false := (u8_bne _ _).symm.trans e2
        unfold bareB; rw [this]; simp
      rw [hb] at tf
      refine ⟨_, add1' (by omega), n - 1, by omega, j + 1, by omega, rfl, ?_⟩
      rw [tf]; simp
    · have hb : bareB s[j] = false := by
        have : (s[j] != 91) = false := (u8_bne _ _).symm.trans e1
        unfold bareB; rw [this]; simp
      rw [hb] at tf
      refine ⟨_, add1' (by omega), n - 1, by omega, j + 1, by omega, rfl, ?_⟩
      rw [tf]; simp
  · have : s.take j = s := by
      have : ¬ j < s.length := by simpa using h
      rw [List.take_of_length_le (by omega)]
    rw [this, pub_str]; rfl
theorem base_no {s : Str} {c : UInt8} (h : bareB c = false) : c ∉ baseS s := fun hm => by
  have := (List.mem_filter.1 hm).2
  rw [h] at this; cases this
theorem base_le (s : Str) : (baseS s).length ≤ s.length := List.length_filter_le _ _
/-! ### The statement -/
end Go.AM.T
