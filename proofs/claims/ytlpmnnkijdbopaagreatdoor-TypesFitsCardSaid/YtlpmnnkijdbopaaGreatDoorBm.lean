/- The document's look-up, and what it is to the table. -/
import Derived.Test.YtlpmnnkijdbopaaGreatDoorBd
import Derived.Test.YtlpmnnkijdbopaaGreatDoorBa
import Derived.Test.YtlpmnnkijdbopaaGreatDoorBl
import Derived.Test.YtlpmnnkijdbopaaGreatDoorAd
set_option linter.unusedSectionVars false
set_option linter.unnecessarySimpa false
set_option linter.deprecated false
set_option linter.unusedVariables false
set_option linter.unusedSimpArgs false
namespace Go.AM.T
set_option linter.unusedVariables false
set_option linter.unusedSimpArgs false
set_option maxRecDepth 100000

/-! ### The document's look-up -/
def findT (l : List TDef) (n : Str) : TDef := if n ∈ fiveL then primDef n else (l.find? fun d => d.name == n).getD zeroDef
theorem r14 {a : AV} {l : List TDef} (ha : SLike a (l.map TDef.av)) (hg : ∀ d ∈ l, d.good) (hl : l.length ≤ 8796093022000) (n : Str) (H : Heap) : ∃ v', (∃ q, v' = .tup [(findT l n).av, .bool q]) ∧ Ret env 14 [a, .str n] H v' H := by
  have hna : AV.noIds a = true := by
    rw [ha.noIds]
    refine noIdsL_of fun v hv => ?_
    obtain ⟨d, hd, rfl⟩ := List.mem_map.1 hv
    exact TDef.noIds (hg d hd).ok
  have hn : AV.noIdsL [a, .str n] = true := by simp [AV.noIdsL, AV.noIds, hna]
  refine Ret.isoQ (f := c14) rfl rfl rfl (PubL.plain hn) (Eq.mpr (x14 _ _ _ _ _) ?_)
  rw [hn]
  show boxP (.agg [I 0, .str [], .nils, .nils, .nils, .nils, I 0]) [] _
  rw [boxP_agg _ _ _ (by simp [AV.isCell])]
  refine ⟨strs fiveL, rfl, ?_⟩
  show boxP (.agg [.str [], .str [], .str [], .str [], .str []]) [Blk.cells [I 0, .str [], .nils, .nils, .nils, .nils, I 0]] _
  rw [boxP_agg _ _ _ (by simp [AV.isCell])]
  refine ⟨_, store_cells0 (b := 1) (cs := [.str [], .str [], .str [], .str [], .str []]) rfl rfl rfl rfl, ?_⟩
  have fin : ∀ (d : TDef) (q : Bool), d.ok → AV.noIds d.av = true → ∃ v, Pub false ([Blk.cells d.av.cells, Blk.cells (strs fiveL)] : Heap) (.tup [d.av, .bool q]) v ∧ ∃ q', v = .tup [d.av, .bool q'] := fun d q _ hn => ⟨_, Pub.tup (.cons (Pub.plain hn) (.cons (.scalar rfl) .nil)), q, rfl⟩
  refine ⟨fun m f H' => ∃ i : Nat, i + m = 5 ∧ f 10 = I ↑i ∧ [Blk.cells [I 0, .str [], .nils, .nils, .nils, .nils, I 0], Blk.cells (strs fiveL)] = H' ∧ n ∉ fiveL.take i, ⟨5, 0, by simp, rfl, rfl, by simp⟩, ?_⟩
  rintro m f H' ⟨i, hi, h10, rfl, hni⟩
  rw [h10, lssI, getP_some, splitB_iff]
  refine ⟨fun hlt => ?_, fun hlt => ?_⟩
  · have hlt : i < fiveL.length := by have : (i : Int) < 5 := by simpa using hlt
                                      simp [fiveL]; omega
    have h5 : i < 5 := hlt
    have hgi := get_map (f := AV.str) hlt
    refine ⟨.ptr 1 (0 + i * 1), by simp [aaddrA, evNat, h5, szOf], .str fiveL[i], load_cells (b := 1) rfl (by rw [show 0 + i * 1 = i by omega]; exact hgi), _, eqlS _ _, splitB_bool (fun e => ?_) fun e => ?_⟩
    · have e : fiveL[i] = n := by simpa using e
      have hmem : n ∈ fiveL := e ▸ List.getElem_mem hlt
      refine ⟨_, rfl, _, store_cells0 (b := 0) (vs := (primDef n).av.cells) rfl rfl rfl rfl, (primDef n).av, load_cells0 (b := 0) rfl rfl, ?_⟩
      have : findT l n = primDef n := by simp [findT, hmem]
      rw [this]
      exact fin (primDef n) true (primDef_ok n (by rw [← e]; simp [fiveL] at h5 ⊢; match i, h5 with | 0, _ => simp | 1, _ => simp | 2, _ => simp | 3, _ => simp | 4, _ => simp)) (by simp [primDef, TDef.av, AV.noIds, AV.noIdsL, ostr])
    · have e : fiveL[i] ≠ n := by simpa using e
      rw [add1 (by omega), getP_some]
      refine ⟨m - 1, by omega, i + 1, by omega, rfl, rfl, ?_⟩
      rw [List.take_succ, List.getElem?_eq_getElem hlt]
      simp only [Option.toList_some, List.mem_append, List.mem_singleton, not_or]
      exact ⟨hni, fun q => e q.symm⟩
  · have hi5 : i = 5 := by have : ¬ (i : Int) < 5 := by simpa using hlt
                           omega
    subst hi5
    have hn5 : n ∉ fiveL := hni
    have hsz : ∀ x ∈ l.map TDef.av, x.cells.length = szOf (some 7) := by
      intro x hx
      obtain ⟨d, _, rfl⟩ := List.mem_map.1 hx
      rfl
    refine ⟨_, ha.len _, ?_⟩
    refine ⟨fun m f H' => ∃ i : Nat, i + m = l.length ∧ f 23 = I ↑i ∧ [Blk.cells [I 0, .str [], .nils, .nils, .nils, .nils, I 0], Blk.cells (strs fiveL)] = H' ∧ (l.find? fun d => d.name == n) = (l.drop i).find? fun d => d.name == n, ⟨l.length, 0, by simp, by rw [List.length_map] at *; rfl, rfl, rfl⟩, ?_⟩
    rintro m2 f2 H' ⟨i, hi, h23, rfl, hfd⟩
    rw [h23, lssI, getP_some, splitB_iff, List.length_map]
    refine ⟨fun hlt => ?_, fun hlt => ?_⟩
    · have hlt : i < l.length := by simpa using hlt
      have hgi := List.getElem?_eq_getElem hlt
      have hgood := hg l[i] (List.getElem_mem hlt)
      rw [drop_cons hgi, List.find?_cons] at hfd
      refine ⟨_, ha.iaddr (get_map hlt) hsz, _, rfl, .str l[i].name, rfl, _, eqlS _ _, splitB_bool (fun e => ?_) fun e => ?_⟩
      · rw [e] at hfd
        refine ⟨_, ha.iaddr (get_map hlt) hsz, l[i].av, rfl, _, store_cells0 (b := 0) (vs := l[i].av.cells) rfl rfl rfl (TDef.cells_all hgood), l[i].av, load_cells0 (b := 0) rfl rfl, ?_⟩
        have : findT l n = l[i] := by simp [findT, hn5, hfd]
        rw [this]
        exact fin l[i] true hgood.ok (TDef.noIds hgood.ok)
      · rw [e] at hfd
        rw [add1 (by omega), getP_some]
        exact ⟨m2 - 1, by omega, i + 1, by omega, rfl, rfl, hfd⟩
    · have hdr : l.drop i = [] := by simp; simpa using hlt
      rw [hdr] at hfd
      have : findT l n = zeroDef := by simp only [findT, hn5, if_false, hfd]; rfl
      rw [this]
      refine ⟨_, rfl, _, store_cells0 (b := 0) (vs := zeroDef.av.cells) rfl rfl rfl rfl, zeroDef.av, load_cells0 (b := 0) rfl rfl, ?_⟩
      exact fin zeroDef false zeroDef_ok (by simp [zeroDef, TDef.av, AV.noIds, AV.noIdsL, ostr])
theorem look_step (n : Str) (s : Tab × List Str) (d : TDef) : (step s d).1.look n = (s.1.look n).or (if d.name == n then some d else none) := by
  unfold step
  by_cases h : (s.1.look d.name).isSome = true
  · rw [if_pos h]
    by_cases e : (d.name == n) = true
    · have : d.name = n := by simpa using e
      subst this
      cases hl : s.1.look d.name with
      | none => rw [hl] at h; cases h
      | some x => rfl
    · rw [if_neg e]; simp
  · rw [if_neg h]
    simp only [Tab.look, List.find?_append, Option.map_or]
    congr 1
    by_cases e : (d.name == n) = true
    · simp [e]
    · simp [e]
theorem look_fold (n : Str) : ∀ (l : List TDef) (s : Tab × List Str), (l.foldl step s).1.look n = (s.1.look n).or (l.find? fun d => d.name == n)
  | [], s => by simp
  | d :: r, s => by
    rw [List.foldl_cons, look_fold n r (step s d), look_step, List.find?_cons]
    cases h : d.name == n <;> simp [Option.or_assoc]
theorem five_look {n : Str} (h : n ∉ fiveL) : fiveT.look n = none := by
  cases e : fiveT.look n with
  | none => rfl
  | some d =>
    have hm := look_mem e
    obtain ⟨s, hs, e2⟩ := List.mem_map.1 hm
    cases e2
    exact absurd hs h
theorem findT_cells {l : List TDef} (hg : ∀ d ∈ l, d.good) (n : Str) : (findT l n).av.cells.all AV.isCell = true := by
  unfold findT
  split
  · rfl
  · cases e : l.find? fun d => d.name == n with
    | none => rfl
    | some d => exact TDef.cells_all (hg d (List.mem_of_find?_eq_some e))

theorem five_look_in {n : Str} (h : n ∈ fiveL) : fiveT.look n = some (primDef n) := by
  simp only [fiveL, List.mem_cons, List.not_mem_nil, or_false] at h
  rcases h with rfl | rfl | rfl | rfl | rfl <;> rfl
theorem get_find (l : List TDef) (n : Str) : (newT l).1.get n = findT l n := by
  rw [Tab.get, newT, look_fold]
  unfold findT
  by_cases h : n ∈ fiveL
  · rw [five_look_in h, if_pos h]; rfl
  · rw [five_look h, if_neg h]; rfl
theorem kind_find (l : List TDef) (n : Str) : (newT l).1.kind n = (findT l n).kind := by rw [Tab.kind, get_find]
end Go.AM.T

/- Contracts: the document's types: kinds, lists, what fits. -/
namespace Go.AM.T
set_option linter.unusedVariables false
set_option linter.unusedSimpArgs false
set_option maxRecDepth 100000

theorem r136 {a : AV} {l : List Str} (ha : SLike a (strs l)) (hl : ShortL l) (x : Str) (H : Heap) : Ret env 136 [a, .str x] H (.bool (l.contains x)) H := by
  refine Ret.isoX (f := c136) rfl rfl rfl (PubL.plain (by simp [AV.noIdsL, AV.noIds, ha.noIds, strs_noIds])) (Eq.mpr (x136 _ _ _ _ _) ?_)
  refine ⟨_, ha.len _, ?_⟩
  refine ⟨fun n f H => ∃ i : Nat, i + n = l.length ∧ f 8 = I ↑i ∧ x ∉ l.take i, ⟨l.length, 0, by omega, rfl, by simp⟩, ?_⟩
  rintro n f H ⟨i, hi, h8, hx⟩
  rw [h8]
  refine ⟨_, lssI _ _ _, splitB_bool (fun h => ?_) fun h => ?_⟩
  · have h : i < l.length := by simpa using h
    have hl' : l.length < 4611686018427387904 := hl
    refine ⟨_, ha.iaddr (get_map h) (strs_cells l), .str l[i], rfl, _, eqlS _ _, splitB_bool (fun e => ?_) fun e => ?_⟩
    · have e : l[i] = x := by simpa using e
      have : l.contains x = true := by rw [List.contains_iff_mem]; exact e ▸ List.getElem_mem h
      rw [this]; exact Pub.scalar rfl
    · have e : l[i] ≠ x := by simpa using e
      refine ⟨_, add1' (by omega), n - 1, by omega, i + 1, by omega, rfl, ?_⟩
      rw [List.take_succ, List.getElem?_eq_getElem h]
      simp only [Option.toList_some, List.mem_append, List.mem_singleton, not_or]
      exact ⟨hx, fun q => e q.symm⟩
  · have h : ¬ i < l.length := by simpa using h
    rw [List.take_of_length_le (by omega)] at hx
    have : l.contains x = false := by
      cases q : l.contains x with
      | false => rfl
      | true => exact absurd (List.contains_iff_mem.1 q) hx
    rw [this]; exact Pub.scalar rfl
section
variable {a0 : AV} {l : List TDef} (ha : SLike a0 (l.map TDef.av)) (hg : ∀ d ∈ l, d.good) (hl : l.length ≤ 8796093022000)
include ha hg in
theorem noIds_types : AV.noIds a0 = true := by
  rw [ha.noIds]
  refine noIdsL_of fun v hv => ?_
  obtain ⟨d, hd, rfl⟩ := List.mem_map.1 hv
  exact TDef.noIds (hg d hd).ok
theorem box_store {H : Heap} {n : Nat} {cs vs : List AV} (h : cs.length = n) (h2 : vs.length = n) (hv : vs.all AV.isCell = true) : storeA n (.ptr H.length 0) (.agg vs) (H ++ [.cells cs]) = some (H ++ [.cells vs]) := by
  rw [store_cells0 (cs := cs) (by simp) h h2 hv, set_last]
include ha hg hl
theorem r138 (n : Str) (H : Heap) : Ret env 138 [a0, .str n] H (I (findT l n).kind) H := by
  refine Ret.isoX (f := c138) rfl rfl rfl (PubL.plain (by simp [AV.noIdsL, AV.noIds, noIds_types ha hg])) (Eq.mpr (x138 _ _ _ _ _) ?_)
  obtain ⟨_, ⟨q, rfl⟩, hr⟩ := r14 ha hg hl n []
  exact ⟨_, _, hr, _, rfl, _, rfl, rfl, _, box_store (vs := (findT l n).av.cells) rfl rfl (findT_cells hg n), _, rfl, _, rfl, Pub.scalar rfl⟩
theorem r137 (n : Str) (H : Heap) : Ret env 137 [a0, .str n] H (.bool ((findT l n).kind == 1 || (findT l n).kind == 5)) H := by
  refine Ret.isoX (f := c137) rfl rfl rfl (PubL.plain (by simp [AV.noIdsL, AV.noIds, noIds_types ha hg])) (Eq.mpr (x137 _ _ _ _ _) ?_)
  refine ⟨_, _, r138 ha hg hl n _, _, eqlI _ _ _, splitB_bool (fun e => ?_) fun e => ?_⟩
  · rw [e]; exact Pub.scalar rfl
  · rw [e, Bool.false_or]; exact ⟨_, _, r138 ha hg hl n _, _, eqlI _ _ _, Pub.scalar rfl⟩
theorem r139 (n : Str) (H : Heap) : Ret env 139 [a0, .str n] H (.bool ((findT l n).kind == 2 || ((findT l n).kind == 3 || (findT l n).kind == 4))) H := by
  refine Ret.isoX (f := c139) rfl rfl rfl (PubL.plain (by simp [AV.noIdsL, AV.noIds, noIds_types ha hg])) (Eq.mpr (x139 _ _ _ _ _) ?_)
  refine ⟨_, _, r138 ha hg hl n _, _, eqlI _ _ _, splitB_bool (fun e => ?_) fun e => ?_⟩
  · rw [e]; exact Pub.scalar rfl
  · rw [e, Bool.false_or]
    refine ⟨_, eqlI _ _ _, splitB_bool (fun e => ?_) fun e => ?_⟩
    · rw [e]; exact Pub.scalar rfl
    · rw [e, Bool.false_or]; exact ⟨_, eqlI _ _ _, Pub.scalar rfl⟩
theorem r133 (s : Str) (hs : s.length ≤ 100000) (H : Heap) : Ret env 133 [a0, .str s] H (.bool (((findT l (baseS s)).kind == 1 || (findT l (baseS s)).kind == 5) || (findT l (baseS s)).kind == 6)) H := by
  refine Ret.isoX (f := c133) rfl rfl rfl (PubL.plain (by simp [AV.noIdsL, AV.noIds, noIds_types ha hg])) (Eq.mpr (x133 _ _ _ _ _) ?_)
  refine ⟨_, _, r18 s hs _, _, _, r137 ha hg hl _ _, splitB_bool (fun e => ?_) fun e => ?_⟩
  · rw [e]; exact Pub.scalar rfl
  · rw [e, Bool.false_or]; exact ⟨_, _, r18 s hs _, _, _, r138 ha hg hl _ _, _, eqlI _ _ _, Pub.scalar rfl⟩
theorem r134 (s : Str) (hs : s.length ≤ 100000) (H : Heap) : Ret env 134 [a0, .str s] H (.bool (((findT l (baseS s)).kind == 1 || (findT l (baseS s)).kind == 5) || ((findT l (baseS s)).kind == 2 || ((findT l (baseS s)).kind == 3 || (findT l (baseS s)).kind == 4)))) H := by
  refine Ret.isoX (f := c134) rfl rfl rfl (PubL.plain (by simp [AV.noIdsL, AV.noIds, noIds_types ha hg])) (Eq.mpr (x134 _ _ _ _ _) ?_)
  refine ⟨_, _, r18 s hs _, _, _, r137 ha hg hl _ _, splitB_bool (fun e => ?_) fun e => ?_⟩
  · rw [e]; exact Pub.scalar rfl
  · rw [e, Bool.false_or]; exact ⟨_, _, r18 s hs _, _, _, r139 ha hg hl _ _, Pub.scalar rfl⟩
end
/-! ### What a type's text is, without its '!' -/
theorem Cl.list {n : Str} (h : Cl n) : preB n [91] = false := by
  cases n with
  | nil => rfl
  | cons c r =>
    have : c ≠ 91 := (h c (by simp)).2.1
    simp [preB, this]
theorem Cl.nn {n : Str} (h : Cl n) : nonNullB n = false := by
  rw [nonNullB, suf_last]
  cases e : n.getLast? == some (33 : UInt8) with
  | false => rfl
  | true => exact absurd (by simpa using e) (last_ne h.no33)
theorem Ty.norm {s : Str} (h : Ty s) : Ty (nullableS s) ∧ nonNullB (nullableS s) = false ∧ ((Cl (nullableS s) ∧ isList s = false) ∨ ∃ u, Ty u ∧ nullableS s = [91] ++ u ++ [93] ∧ isList s = true ∧ itemS s = u) := by
  have key : ∀ t : Str, Ty t → t.getLast? ≠ some 33 → nullableS s = t → Ty (nullableS s) ∧ nonNullB (nullableS s) = false ∧ ((Cl (nullableS s) ∧ isList s = false) ∨ ∃ u, Ty u ∧ nullableS s = [91] ++ u ++ [93] ∧ isList s = true ∧ itemS s = u) := by
    intro t ht hn e
    have e1 : isList s = preB t [91] := by rw [isList, e]
    rw [e]
    refine ⟨ht, ?_, ?_⟩
    · rw [nonNullB, suf_last]
      cases q : t.getLast? == some (33 : UInt8) with
      | false => rfl
      | true => exact absurd (by simpa using q) hn
    · cases ht with
      | name h => exact .inl ⟨h, e1.trans h.list⟩
      | @list u h =>
        have hp : preB ([91] ++ u ++ [93]) [91] = true := by simp [preB]
        have hc : cutP ([91] ++ u ++ [93]) [91] = u ++ [93] := by rw [cutP, hp]; simp
        refine .inr ⟨u, h, rfl, e1.trans hp, ?_⟩
        rw [itemS, e1, hp, if_pos rfl, e, hc, trim_concat]
      | bang h q => exact absurd (by rw [List.getLast?_concat]) hn
  cases h with
  | name h => exact key s (.name h) (last_ne h.no33) (nullable_no h.nn)
  | list h => exact key _ (.list h) (by rw [List.getLast?_concat]; decide) (nullable_no (list_last _))
  | bang h hn => exact key _ h hn (nullable_bang _)
theorem r135 {s : Str} (h : Ty s) (hs : Short s) (H : Heap) : Ret env 135 [.str s] H (.tup [.str (itemS s), .bool (isList s)]) H := by
  refine Ret.isoX (f := c135) rfl rfl rfl (PubL.plain rfl) (Eq.mpr (x135 _ _ _ _) ?_)
  have hns : Short (nullableS s) := Nat.lt_of_le_of_lt (trim_le s _) hs
  obtain ⟨_, _, h3⟩ := h.norm
  refine ⟨_, _, r17 s hs _, _, rfl, _, lssI _ _ _, ?_⟩
  rcases h3 with ⟨hc, hl⟩ | ⟨u, hu, e, hl, hi⟩
  · have hit : itemS s = [] := by rw [itemS, hl]; rfl
    rw [hl, hit]
    refine splitB_bool (fun _ => Pub.scalars2) fun hlt => ?_
    have hlt : 2 ≤ (nullableS s).length := by have := of_decide_eq_false hlt; omega
    have hg := List.getElem?_eq_getElem (show 0 < (nullableS s).length by omega)
    refine ⟨_, index_str (i := 0) hg, _, neqI _ _ _, splitB_bool (fun _ => Pub.scalars2) fun hh => ?_⟩
    have h0 := (hc _ (List.getElem_mem (show 0 < (nullableS s).length by omega))).2.1
    have : ((nullableS s)[0] != 91) = false := (u8_bne _ _).symm.trans hh
    exact absurd (by simpa using this) h0
  · have hln : (nullableS s).length = u.length + 2 := by rw [e]; simp
    rw [hl, hi]
    refine splitB_bool (fun hlt => ?_) fun hlt => ?_
    · have := of_decide_eq_true hlt; omega
    · have hg : (nullableS s)[0]? = some 91 := by rw [e]; rfl
      refine ⟨_, index_str (i := 0) hg, _, neqI _ _ _, splitB_bool (fun hh => by simp at hh) fun hh => ?_⟩
      refine ⟨_, rfl, _, sub1 (by omega) hns, _, slice_mid (i := 1) (by omega) (by omega), ?_⟩
      have : ((nullableS s).take ((nullableS s).length - 1)).drop 1 = u := by
        rw [hln, e, show u.length + 2 - 1 = ([91] ++ u : Str).length by simp, List.take_left']
        · simp
        · rfl
      rw [this]; exact Pub.scalars2
section
variable {a0 : AV} {l : List TDef} (ha : SLike a0 (l.map TDef.av)) (hg : ∀ d ∈ l, d.good) (hl : l.length ≤ 8796093022000)
include ha hg hl
theorem r132 : ∀ (n : Nat) (a b : Str), a.length = n → Ty a → Ty b → Short a → Short b → ∀ H, Ret env 132 [a0, .str a, .str b] H (.bool ((newT l).1.fits a b)) H := by
  have ht : (newT l).1.ok := (newT_ok l (fiveT, []) fiveT_ok fun d hd => (hg d hd).ok).1
  intro n
  induction n using Nat.strongRecOn with
  | ind n ih =>
  intro a b hn ta tb sa sb H
  subst hn
  refine Ret.isoX (f := c132) rfl rfl rfl (PubL.plain (by simp [AV.noIdsL, AV.noIds, noIds_types ha hg])) (Eq.mpr (x132 _ _ _ _ _ _) ?_)
  obtain ⟨a1, a2, a3⟩ := ta.norm
  obtain ⟨b1, b2, b3⟩ := tb.norm
  rw [Tab.fits]
  refine ⟨_, _, r35 a sa _, splitB_bool (fun h => ?_) fun h => ?_⟩
  · rw [dif_pos h]
    exact ⟨_, _, r17 a sa _, _, _, r17 b sb _, _, _, ih _ (suf_lt h (by simp)) _ _ rfl a1 b1 (Nat.lt_of_le_of_lt (trim_le a _) sa) (Nat.lt_of_le_of_lt (trim_le b _) sb) _, Pub.scalar rfl⟩
  rw [dif_neg (by rw [h]; decide)]
  refine ⟨_, _, r35 b sb _, splitB_bool (fun h2 => ?_) fun h2 => ?_⟩
  · rw [h2, if_pos rfl]; exact Pub.scalar rfl
  rw [h2]
  simp only [Bool.false_eq_true, if_false]
  refine ⟨_, _, r135 ta sa _, _, rfl, _, rfl, _, _, r135 tb sb _, _, rfl, _, rfl, ?_⟩
  have no : ∀ {v : Bool}, v = false → Pub (!AV.noIdsL [a0, AV.str a, AV.str b]) ([] : Heap) (.bool false) (.bool v) := fun {v} e => by rw [e]; exact Pub.scalar rfl
  have leaf : isList a = false → isList b = false → getP (binop .eql (.str a) (.str b)) fun v21 => splitB v21 (Pub (!AV.noIdsL [a0, AV.str a, AV.str b]) ([] : Heap) (.bool true) (.bool (if (a == b) = true then true else if (newT l).1.is b [3] = true then (newT l).1.is a [2, 3] && (((newT l).1.get a).impl.getD []).contains b else (newT l).1.is b [4] && ((newT l).1.is a [2] && (((newT l).1.get b).mem.getD []).contains a)))) True := fun _ _ => ⟨_, eqlS _ _, splitB_bool (fun e => by rw [e]; exact Pub.scalar rfl) fun _ => trivial⟩
  clear leaf
  have is1 : ∀ (x : Str) (k : Int), k ≠ 0 → (newT l).1.is x [k] = ((findT l x).kind == k) := by
    intro x k hk
    rw [Tab.is, kind_find]
    by_cases e : (findT l x).kind = k
    · rw [e]; simp [hk]
    · have e2 : ((findT l x).kind == k) = false := by simpa using e
      rw [e2]; simp [e]
  have is2 : ∀ (x : Str), (newT l).1.is x [2, 3] = ((findT l x).kind == 2 || (findT l x).kind == 3) := by
    intro x
    rw [Tab.is, kind_find]
    by_cases e : (findT l x).kind = 2
    · rw [e]; rfl
    · by_cases e3 : (findT l x).kind = 3
      · rw [e3]; rfl
      · have e2 : ((findT l x).kind == 2) = false := by simpa using e
        have e4 : ((findT l x).kind == 3) = false := by simpa using e3
        rw [e2, e4]; simp [e, e3]
  by_cases l1 : isList a = true
  · by_cases l2 : isList b = true
    · rw [l1, l2, dif_pos rfl, if_pos rfl]
      obtain ⟨u, hu, _, _, iu⟩ := a3.resolve_left fun q => by rw [l1] at q; exact absurd q.2 (by decide)
      obtain ⟨w, hw, _, _, iw⟩ := b3.resolve_left fun q => by rw [l2] at q; exact absurd q.2 (by decide)
      refine ⟨_, _, ih _ (item_lt l1) _ _ rfl (iu ▸ hu) (iw ▸ hw) (Nat.lt_trans (item_lt l1) sa) (Nat.lt_trans (item_lt l2) sb) _, Pub.scalar rfl⟩
    · have l2 : isList b = false := by simpa using l2
      rw [l1, l2, dif_pos rfl]
      exact no rfl
  · have l1 : isList a = false := by simpa using l1
    by_cases l2 : isList b = true
    · rw [l1, l2, dif_neg (by decide), if_pos rfl]
      exact no rfl
    · have l2 : isList b = false := by simpa using l2
      rw [l1, l2, dif_neg (by decide)]
      simp only [Bool.false_eq_true, if_false]
      refine ⟨_, eqlS _ _, splitB_bool (fun e => by rw [e, if_pos rfl]; exact Pub.scalar rfl) fun e => ?_⟩
      rw [e]
      simp only [Bool.false_eq_true, if_false]
      rw [is1 b 3 (by decide), is1 b 4 (by decide), is1 a 2 (by decide), is2 a, get_find, get_find]
      have oka : (findT l a).ok := get_find l a ▸ Tab.get_ok ht a
      have okb : (findT l b).ok := get_find l b ▸ Tab.get_ok ht b
      have ca := findT_cells hg a
      have cb := findT_cells hg b
      obtain ⟨_, ⟨qa, rfl⟩, hra⟩ := r14 ha hg hl a []
      refine ⟨_, _, hra, _, rfl, _, rfl, rfl, _, box_store (vs := (findT l a).av.cells) rfl rfl ca, ?_⟩
      obtain ⟨_, ⟨qb, rfl⟩, hrb⟩ := r14 ha hg hl b [.cells (findT l a).av.cells]
      refine ⟨_, _, hrb, _, rfl, _, rfl, rfl, _, box_store (H := [.cells (findT l a).av.cells]) (vs := (findT l b).av.cells) rfl rfl cb, ?_⟩
      generalize findT l a = da at *
      generalize findT l b = db at *
      refine ⟨_, rfl, _, rfl, _, eqlI _ _ _, splitB_bool (fun e3 => ?_) fun e3 => ?_⟩
      · rw [e3, if_pos rfl]
        refine ⟨_, rfl, _, rfl, _, eqlI _ _ _, splitB_bool (fun e2 => ?_) fun e2 => ?_⟩
        · rw [e2, Bool.true_or, Bool.true_and]
          exact ⟨_, rfl, ostr da.impl, rfl, _, _, r136 (ostr_like _) oka.impl b _, Pub.scalar rfl⟩
        · rw [e2, Bool.false_or]
          refine ⟨_, rfl, _, rfl, _, eqlI _ _ _, splitB_bool (fun e4 => ?_) fun e4 => ?_⟩
          · rw [e4, Bool.true_and]
            exact ⟨_, rfl, ostr da.impl, rfl, _, _, r136 (ostr_like _) oka.impl b _, Pub.scalar rfl⟩
          · rw [e4, Bool.false_and]; exact Pub.scalar rfl
      · rw [e3]
        simp only [Bool.false_eq_true, if_false]
        refine ⟨_, rfl, _, rfl, _, eqlI _ _ _, splitB_bool (fun e2 => ?_) fun e2 => ?_⟩
        · rw [e2, Bool.true_and]
          refine ⟨_, rfl, _, rfl, _, eqlI _ _ _, splitB_bool (fun e4 => ?_) fun e4 => ?_⟩
          · rw [e4, Bool.true_and]
            exact ⟨_, rfl, ostr db.mem, rfl, _, _, r136 (ostr_like _) okb.mem a _, Pub.scalar rfl⟩
          · rw [e4, Bool.false_and]; exact Pub.scalar rfl
        · rw [e2, Bool.false_and]; exact Pub.scalar rfl
end
end Go.AM.T

/- Contracts: a type's name, trimmed. -/
namespace Go.AM.T
set_option linter.unusedVariables false
set_option linter.unusedSimpArgs false
set_option maxRecDepth 100000

def setC : List AV := (List.range 256).map fun i => .bool (i == 33 || (i == 91 || i == 93))
set_option maxRecDepth 1000000 in
theorem set_run : callF env 10000 125 [.str [91, 93, 33]] [] = some (.tup [.agg setC, .bool true], []) := by kernel_rfl
theorem setC_len : setC.length = 256 := by simp [setC]
theorem setC_at (c : UInt8) : setC[c.toNat]? = some (.bool (!bareB c)) := by
  have hc : c.toNat < 256 := c.toNat_lt
  have e : ∀ k : Nat, k < 256 → (c.toNat == k) = (c == UInt8.ofNat k) := by
    intro k hk
    rw [Bool.eq_iff_iff]
    simp only [beq_iff_eq]
    constructor
    · intro h; rw [← h]; simp
    · rintro rfl; simp; omega
  have : (c.toNat == 33 || (c.toNat == 91 || c.toNat == 93)) = !bareB c := by
    rw [e 33 (by decide), e 91 (by decide), e 93 (by decide)]
    unfold bareB
    show (c == 33 || (c == 91 || c == 93)) = _
    simp only [bne]
    cases c == 33 <;> cases c == 91 <;> cases c == 93 <;> rfl
  rw [← this]
  simp [setC, hc]
theorem setC_scalar : ∀ v ∈ setC, v.scalar = true := by
  intro v hv
  obtain ⟨i, _, rfl⟩ := List.mem_map.1 hv
  rfl
theorem setC_cell : setC.all AV.isCell = true := by
  rw [List.all_eq_true]
  intro v hv
  obtain ⟨i, _, rfl⟩ := List.mem_map.1 hv
  rfl
theorem setC_noIds : AV.noIdsL setC = true := noIdsL_of fun v hv => by
  obtain ⟨i, _, rfl⟩ := List.mem_map.1 hv
  rfl
theorem r125 (H : Heap) : Ret env 125 [.str [91, 93, 33]] H (.tup [.agg setC, .bool true]) H := by
  have h := set_run
  have e : callF env 10000 125 [.str [91, 93, 33]] H = some (.tup [.agg setC, .bool true], H) := by
    have hf : env.fn 125 = some c125 := rfl
    have hi : c125.iso = true := rfl
    have hp : env.prim 125 = none := rfl
    rw [callF] at h ⊢
    simp only [hp, hf, hi, if_true] at h ⊢
    rw [show pubL false 9999 H [.str [91, 93, 33]] = some [.str [91, 93, 33]] from rfl, Option.bind_some]
    rw [show pubL false 9999 [] [.str [91, 93, 33]] = some [.str [91, 93, 33]] from rfl, Option.bind_some] at h
    obtain ⟨p, h1, h2⟩ := Option.bind_eq_some_iff.1 h
    rw [h1, Option.bind_some]
    obtain ⟨v, h3, h4⟩ := Option.map_eq_some_iff.1 h2
    injection h4 with h4
    rw [h3, Option.map_some, h4]
  exact Ret.of e
theorem r130 (c : UInt8) (H : Heap) : Ret env 130 [.dptr setC, .int .u8 c.toNat] H (.bool (!bareB c)) H := by
  refine Ret.isoX (f := c130) rfl rfl rfl (PubL.plain (by simp [AV.noIdsL, AV.noIds, setC_noIds])) (Eq.mpr (x130 _ _ _ _ _) ?_)
  have hc : c.toNat < 256 := c.toNat_lt
  refine ⟨_, rfl, .dptr (setC.drop c.toNat), by simp [aaddrA, evNat, hc, szOf], .bool (!bareB c), ?_, Pub.scalar rfl⟩
  simp [loadA, mkv, List.head?_drop, setC_at]
def trR (s : Str) : Str := (s.reverse.dropWhile fun c => !bareB c).reverse
def trL (s : Str) : Str := s.dropWhile fun c => !bareB c
theorem trR_concat (y : Str) (c : UInt8) : trR (y ++ [c]) = if bareB c then y ++ [c] else trR y := by
  simp only [trR, List.reverse_append, List.reverse_cons, List.reverse_nil, List.nil_append, List.cons_append, List.dropWhile_cons]
  cases bareB c <;> simp
theorem trR_le (s : Str) : (trR s).length ≤ s.length := by
  rw [trR, List.length_reverse]
  refine Nat.le_trans (List.Sublist.length_le (List.dropWhile_sublist _)) ?_
  simp
theorem r126 (s : Str) (hs : Short s) {args : List AV} {H : Heap} (hp : PubL H args [.str s, .dptr setC]) : Ret env 126 args H (.str (trR s)) H := by
  refine Ret.isoX (f := c126) rfl rfl rfl hp (Eq.mpr (x126 _ _ _ _ _) ?_)
  refine ⟨fun n f H => ∃ w : Str, f 0 = .str w ∧ w.length = n ∧ trR w = trR s ∧ w.length ≤ s.length, ⟨s.length, s, rfl, rfl, rfl, Nat.le_refl _⟩, ?_⟩
  rintro n f H ⟨w, h0, hn, hw, hle⟩
  rw [h0]
  refine ⟨_, rfl, _, gtrI _ _ _, splitB_bool (fun h => ?_) fun h => ?_⟩
  · have h := of_decide_eq_true h
    rcases List.eq_nil_or_concat w with rfl | ⟨y, d, rfl⟩
    · simp at h
    rw [List.concat_eq_append] at *
    have hl : (y ++ [d]).length = y.length + 1 := by simp
    have hg : (y ++ [d])[(y ++ [d]).length - 1]? = some d := by rw [hl]; simp
    have hsw : (y ++ [d]).length < 4611686018427387904 := Nat.lt_of_le_of_lt hle hs
    refine ⟨_, rfl, _, sub1 (by omega) hsw, _, index_str hg, _, _, r130 d _, _, notB _, splitB_bool (fun e => ?_) fun e => ?_⟩
    · have e : bareB d = true := by simpa using e
      rw [trR_concat, e, if_pos rfl] at hw
      rw [← hw]; exact Pub.scalar rfl
    · have e : bareB d = false := by simpa using e
      rw [trR_concat, e, if_neg (by decide)] at hw
      refine ⟨_, rfl, _, sub1 (by omega) hsw, _, slice_to (by omega), n - 1, by omega, y, ?_, by omega, hw, by omega⟩
      show AV.str _ = _
      rw [hl]; simp
  · have h : w.length = 0 := by have := of_decide_eq_false h; omega
    have : w = [] := List.eq_nil_of_length_eq_zero h
    subst this
    rw [← hw]; exact Pub.scalar rfl
theorem r127 (s : Str) (hs : Short s) {args : List AV} {H : Heap} (hp : PubL H args [.str s, .dptr setC]) : Ret env 127 args H (.str (trL s)) H := by
  refine Ret.isoX (f := c127) rfl rfl rfl hp (Eq.mpr (x127 _ _ _ _ _) ?_)
  refine ⟨fun n f H => ∃ w : Str, f 0 = .str w ∧ w.length = n ∧ trL w = trL s, ⟨s.length, s, rfl, rfl, rfl⟩, ?_⟩
  rintro n f H ⟨w, h0, hn, hw⟩
  rw [h0]
  refine ⟨_, rfl, _, gtrI _ _ _, splitB_bool (fun h => ?_) fun h => ?_⟩
  · have h := of_decide_eq_true h
    cases w with
    | nil => simp at h
    | cons c r =>
      have hg : (c :: r)[0]? = some c := rfl
      refine ⟨_, index_str (i := 0) hg, _, _, r130 c _, _, notB _, splitB_bool (fun e => ?_) fun e => ?_⟩
      · have e : bareB c = true := by simpa using e
        have : trL (c :: r) = c :: r := by simp [trL, List.dropWhile_cons, e]
        rw [← hw, this]; exact Pub.scalar rfl
      · have e : bareB c = false := by simpa using e
        have : trL (c :: r) = trL r := by simp [trL, List.dropWhile_cons, e]
        exact ⟨_, slice_from (n := 1) (by simp), n - 1, by simp at hn; omega, r, rfl, by simp at hn; omega, by rw [← this]; exact hw⟩
  · have h : w.length = 0 := by have := of_decide_eq_false h; omega
    have : w = [] := List.eq_nil_of_length_eq_zero h
    subst this
    rw [← hw]; exact Pub.scalar rfl
theorem pub_set {s : Str} {cs : List AV} (h : cs = setC) : PubL ([.cells cs] : Heap) [.str s, .ptr 0 0] [.str s, .dptr setC] := by
  subst h
  exact PubLF.cons (.scalar rfl) (PubLF.cons (Pub.ptr (cs := setC) rfl (Nat.zero_le _) (PubLF.scalars setC_scalar)) PubLF.nil)
theorem r122 (s : Str) (hs : Short s) (H : Heap) : Ret env 122 [.str s, .str [91, 93, 33]] H (.str (trL (trR s))) H := by
  refine Ret.isoX (f := c122) rfl rfl rfl (PubL.plain rfl) (Eq.mpr (x122 _ _ _ _ _) ?_)
  refine ⟨_, eqlS _ _, splitB_bool (fun e => ?_) fun _ => ?_⟩
  · have : s = [] := by simpa using e
    subst this; exact Pub.scalar rfl
  refine ⟨_, eqlS _ _, splitB_bool (fun e => by cases e) fun _ => ?_⟩
  refine ⟨_, rfl, _, eqlI _ _ _, splitB_bool (fun e => by cases e) fun _ => ?_⟩
  refine ⟨_, _, r125 _, _, rfl, _, rfl, rfl, _, box_store (H := []) (vs := setC) rfl setC_len setC_cell, splitB_bool (fun _ => ?_) fun e => by cases e⟩
  exact ⟨_, _, r126 s hs (pub_set rfl), _, _, r127 _ (Nat.lt_of_le_of_lt (trR_le s) hs) (pub_set rfl), Pub.scalar rfl⟩
theorem r121 (s : Str) (hs : Short s) (H : Heap) : Ret env 121 [.str s] H (.str (trL (trR s))) H := by
  refine Ret.isoX (f := c121) rfl rfl rfl (PubL.plain rfl) (Eq.mpr (x121 _ _ _ _) ?_)
  exact ⟨_, _, r122 s hs _, Pub.scalar rfl⟩
/-! ### The name in a type's text -/
def Sg (s : Str) : Prop := ∀ c ∈ s, bareB c = false
theorem Cl.bare {n : Str} (h : Cl n) : ∀ c ∈ n, bareB c = true := fun c hc => by
  obtain ⟨h1, h2, h3⟩ := h c hc
  simp [bareB, h1, h2, h3]
theorem Ty.parts {s : Str} (h : Ty s) : ∃ l n r : Str, s = l ++ n ++ r ∧ Sg l ∧ Cl n ∧ Sg r := by
  induction h with
  | @name n h => exact ⟨[], n, [], by simp, by simp [Sg], h, by simp [Sg]⟩
  | list h ih =>
    obtain ⟨l, n, r, rfl, h1, h2, h3⟩ := ih
    refine ⟨[91] ++ l, n, r ++ [93], by simp, ?_, h2, ?_⟩
    · intro c hc
      rcases List.mem_append.1 hc with hc | hc
      · have : c = 91 := by simpa using hc
        subst this; decide
      · exact h1 c hc
    · intro c hc
      rcases List.mem_append.1 hc with hc | hc
      · exact h3 c hc
      · have : c = 93 := by simpa using hc
        subst this; decide
  | bang h hn ih =>
    obtain ⟨l, n, r, rfl, h1, h2, h3⟩ := ih
    refine ⟨l, n, r ++ [33], by simp, h1, h2, ?_⟩
    intro c hc
    rcases List.mem_append.1 hc with hc | hc
    · exact h3 c hc
    · have : c = 33 := by simpa using hc
      subst this; decide
theorem drop_sg {l : Str} (h : Sg l) (t : Str) : trL (l ++ t) = trL t := by
  induction l with
  | nil => rfl
  | cons c r ih =>
    have hc := h c (by simp)
    rw [List.cons_append, trL, List.dropWhile_cons, hc]
    exact ih fun d hd => h d (by simp [hd])
theorem dropR_sg {r : Str} (h : Sg r) (t : Str) : trR (t ++ r) = trR t := by
  have : Sg r.reverse := fun c hc => h c (by simpa using hc)
  rw [trR, List.reverse_append]
  show (trL (r.reverse ++ t.reverse)).reverse = _
  rw [drop_sg this]; rfl
theorem trL_cl {n : Str} (h : Cl n) : trL n = n := by
  cases n with
  | nil => rfl
  | cons c r => rw [trL, List.dropWhile_cons, h.bare c (by simp)]; rfl
theorem base_trim {s : Str} (h : Ty s) : trL (trR s) = baseS s := by
  obtain ⟨l, n, r, rfl, h1, h2, h3⟩ := h.parts
  have hb : baseS (l ++ n ++ r) = n := by
    rw [baseS, List.filter_append, List.filter_append]
    have e1 : l.filter bareB = [] := List.filter_eq_nil_iff.2 (fun c hc => by rw [h1 c hc]; decide)
    have e3 : r.filter bareB = [] := List.filter_eq_nil_iff.2 (fun c hc => by rw [h3 c hc]; decide)
    rw [e1, e3, List.filter_eq_self.2 h2.bare]
    simp
  rw [hb, dropR_sg h3]
  rcases List.eq_nil_or_concat n with rfl | ⟨y, d, rfl⟩
  · have : trR (l ++ []) = [] := by
      have := dropR_sg h1 []
      simpa [trR] using this
    rw [this]; rfl
  · rw [List.concat_eq_append] at *
    have hd : bareB d = true := h2.bare d (by simp)
    rw [← List.append_assoc, trR_concat, hd, if_pos rfl, List.append_assoc, drop_sg h1, trL_cl h2]
section
variable {t : Tab} (ht : t.ok) (o : Option (List Str))
include ht
theorem r117 {s : Str} (h : Ty s) (hs : Short s) (H : Heap) : Ret env 117 [TT t o, .str s] H (.bool (t.is (baseS s) [1, 5, 6])) H := by
  refine Ret.isoX (f := c117) rfl rfl rfl (PubL.plain (by simp [AV.noIdsL, AV.noIds, TT_noIds ht])) (Eq.mpr (x117 _ _ _ _ _) ?_)
  have hb := r121 s hs []
  rw [base_trim h] at hb
  exact ⟨_, _, hb, [I 1, I 5, I 6], rfl, Eq.mpr (k19 ht o _ (l := [1, 5, 6]) (m := 3) rfl (by simp) ([] : Heap) _) (Pub.scalar rfl)⟩
theorem r118 {s : Str} (h : Ty s) (hs : Short s) (H : Heap) : Ret env 118 [TT t o, .str s] H (.bool (t.is (baseS s) [1, 5, 2, 3, 4])) H := by
  refine Ret.isoX (f := c118) rfl rfl rfl (PubL.plain (by simp [AV.noIdsL, AV.noIds, TT_noIds ht])) (Eq.mpr (x118 _ _ _ _ _) ?_)
  have hb := r121 s hs []
  rw [base_trim h] at hb
  exact ⟨_, _, hb, [I 1, I 5, I 2, I 3, I 4], rfl, Eq.mpr (k19 ht o _ (l := [1, 5, 2, 3, 4]) (m := 5) rfl (by simp) ([] : Heap) _) (Pub.scalar rfl)⟩
end
theorem is_in (l : List TDef) (n : Str) : (newT l).1.is n [1, 5, 6] = (((findT l n).kind == 1 || (findT l n).kind == 5) || (findT l n).kind == 6) := by
  rw [Tab.is, kind_find]
  generalize (findT l n).kind = k
  by_cases h0 : k = 0
  · subst h0; rfl
  · have : (k != 0) = true := by simpa using h0
    have e : ∀ j : Int, decide (k = j) = (k == j) := fun j => rfl
    rw [this]
    simp [Bool.or_assoc, e]
theorem is_out (l : List TDef) (n : Str) : (newT l).1.is n [1, 5, 2, 3, 4] = (((findT l n).kind == 1 || (findT l n).kind == 5) || ((findT l n).kind == 2 || ((findT l n).kind == 3 || (findT l n).kind == 4))) := by
  rw [Tab.is, kind_find]
  generalize (findT l n).kind = k
  by_cases h0 : k = 0
  · subst h0; rfl
  · have : (k != 0) = true := by simpa using h0
    have e : ∀ j : Int, decide (k = j) = (k == j) := fun j => rfl
    rw [this]
    simp [Bool.or_assoc, e]
theorem r131 {a0 : AV} {l : List TDef} (ha : SLike a0 (l.map TDef.av)) (hg : ∀ d ∈ l, d.good) (hl : l.length ≤ 8796093022000) (a b : Str) (H : Heap) : Ret env 131 [a0, .str a, .str b] H (.bool true) H := by
  have hna := noIds_types ha hg
  have hp1 : ∀ H, PubL H [a0] [a0] := fun H => PubL.plain (by simp [AV.noIdsL, hna])
  refine Ret.isoX (f := c131) rfl rfl rfl (PubL.plain (by simp [AV.noIdsL, AV.noIds, hna])) (Eq.mpr (x131 _ _ _ _ _ _) ?_)
  have done : ∀ {fr H}, Pub fr H (.bool true) (.bool true) := fun {_ _} => Pub.scalar rfl
  have aw : ∀ {fr H}, callP env 3 [] H fun v h => Pub fr h v (.bool true) := fun {_ H} => ⟨_, _, callF_awake H, done⟩
  refine ⟨_, _, callF_awake [], _, notB _, splitB_bool (fun h => by cases h) fun _ => ?_⟩
  obtain ⟨r, ⟨q, rfl⟩, hr⟩ := r4 ha hg hl (hp1 [])
  refine ⟨_, _, hr, _, notB _, splitB_bool (fun _ => aw) fun _ => ?_⟩
  refine ⟨_, rfl, _, gtrI _ _ _, splitB_bool (fun _ => aw) fun h1 => ?_⟩
  refine ⟨_, rfl, _, gtrI _ _ _, splitB_bool (fun _ => aw) fun h2 => ?_⟩
  have h1 : a.length ≤ 300 := by have := of_decide_eq_false h1; omega
  have h2 : b.length ≤ 300 := by have := of_decide_eq_false h2; omega
  have sa : Short a := by simp only [Short]; omega
  have sb : Short b := by simp only [Short]; omega
  obtain ⟨qa, hqa, hra⟩ := r16 a []
  obtain ⟨qb, hqb, hrb⟩ := r16 b []
  refine ⟨_, _, hra, _, notB _, splitB_bool (fun _ => aw) fun h => ?_⟩
  have ta : Ty a := hqa (by simpa using h)
  refine ⟨_, _, hrb, _, notB _, splitB_bool (fun _ => aw) fun h => ?_⟩
  have tb : Ty b := hqb (by simpa using h)
  have ht : (newT l).1.ok := (newT_ok l (fiveT, []) fiveT_ok fun d hd => (hg d hd).ok).1
  refine ⟨_, _, Go.AM.T.r6 ha hg hl (hp1 []) (by simp [AV.noIdsL, hna]), _, rfl, splitB_bool (fun _ => ?_) fun e => by cases e⟩
  refine ⟨_, _, r10 ht _ _ a b rfl sa sb [], _, _, r132 ha hg hl _ a b rfl ta tb sa sb [], .bool true, by simp [eqA], splitB_bool (fun _ => ?_) fun e => by cases e⟩
  have hi := r117 ht (ordO (newT l).2) ta sa []
  rw [is_in] at hi
  refine ⟨_, _, hi, _, _, r133 ha hg hl a (by omega) [], .bool true, by simp [eqA], splitB_bool (fun _ => ?_) fun e => by cases e⟩
  have ho := r118 ht (ordO (newT l).2) ta sa []
  rw [is_out] at ho
  exact ⟨_, _, ho, _, _, r134 ha hg hl a (by omega) [], .bool true, by simp [eqA], done⟩
end Go.AM.T
