/- A region whose order is open: its own form; the run in the list's order, told step by step. -/
import Derived.Test.YtbdpkblldffkcaaGreatDoorAc
import Derived.LoopN
set_option linter.unusedSectionVars false
set_option linter.unnecessarySimpa false
set_option linter.deprecated false
set_option linter.unusedVariables false
set_option linter.unusedSimpArgs false
namespace Go.AM
set_option linter.unusedVariables false
set_option linter.unusedSimpArgs false

/-! ### Which comes first -/
inductive Before (ops : List RO) : Nat → Nat → Prop
  | edge {i j : Nat} {o : RO} : ops[j]? = some o → i ∈ o.after → Before ops i j
  | trans {i x j : Nat} {o : RO} : ops[j]? = some o → x ∈ o.after → Before ops i x → Before ops i j

theorem fold_bit (acc : List Nat) (i : Nat) : ∀ (l : List Nat) (m : Nat), (l.foldl (fun m j => m ||| 2 ^ j ||| acc.getD j 0) m).testBit i = true → m.testBit i = true ∨ ∃ x ∈ l, i = x ∨ (acc.getD x 0).testBit i = true
  | [], m, h => .inl h
  | j :: r, m, h => by
    rw [List.foldl_cons] at h
    rcases fold_bit acc i r _ h with h | ⟨x, hx, h⟩
    · simp only [Nat.testBit_or, Bool.or_eq_true, Nat.testBit_two_pow, decide_eq_true_eq] at h
      rcases h with (h | h) | h
      · exact .inl h
      · exact .inr ⟨j, by simp, .inl h.symm⟩
      · exact .inr ⟨j, by simp, .inr h⟩
    · exact .inr ⟨x, by simp [hx], h⟩

theorem prefs_ok (all : List RO) : ∀ (ops : List RO) (acc : List Nat), all.drop acc.length = ops → (∀ j i, (acc.getD j 0).testBit i = true → Before all i j) → ∀ j i, ((prefs ops acc).getD j 0).testBit i = true → Before all i j
  | [], acc, _, h => h
  | o :: r, acc, hd, h => by
    have ho : all[acc.length]? = some o := by
      have : (all.drop acc.length)[0]? = some o := by rw [hd]; rfl
      simpa using this
    have hr : all.drop (acc.length + 1) = r := by
      have : (all.drop acc.length).drop 1 = r := by rw [hd]; rfl
      simpa [List.drop_drop] using this
    unfold prefs
    refine prefs_ok all r _ (by simpa using hr) fun j i hj => ?_
    rcases Nat.lt_trichotomy j acc.length with hl | rfl | hl
    · refine h j i ?_
      simpa [List.getD_eq_getElem?_getD, List.getElem?_append_left hl] using hj
    · have : (acc ++ [o.after.foldl (fun m j => m ||| 2 ^ j ||| acc.getD j 0) 0]).getD acc.length 0 = o.after.foldl (fun m j => m ||| 2 ^ j ||| acc.getD j 0) 0 := by simp [List.getD_eq_getElem?_getD]
      rw [this] at hj
      rcases fold_bit acc i _ _ hj with h0 | ⟨x, hx, rfl | h0⟩
      · simp at h0
      · exact .edge ho hx
      · exact .trans ho hx (h x i h0)
    · have : (acc ++ [o.after.foldl (fun m j => m ||| 2 ^ j ||| acc.getD j 0) 0]).getD j 0 = 0 := by
        rw [List.getD_eq_getElem?_getD, List.getElem?_eq_none (by simp; omega)]; rfl
      rw [this] at hj
      simp at hj

structure DrawOk (ops : List RO) : Prop where
  back : ∀ (j : Nat) (o : RO), ops[j]? = some o → ∀ i ∈ o.after, i < j
  pair : ∀ (i j : Nat) (oi oj : RO), ops[i]? = some oi → ops[j]? = some oj → i ≠ j → (Before ops i j ∨ Before ops j i) ∨
    (¬ (oi.op.loud = true ∧ oj.op.loud = true) ∧ ¬ (oi.op.isAlloc = true ∧ oj.op.loud = true ∧ j < i) ∧ ∀ d, oi.dst = some d → d ∉ oj.uses ∧ oj.dst ≠ some d)

theorem ordered_before {ops : List RO} {i j : Nat} (h : ordered (prefs ops []) i j = true) : Before ops i j ∨ Before ops j i := by
  unfold ordered at h
  rw [Bool.or_eq_true] at h
  have hn : ∀ j i, (([] : List Nat).getD j 0).testBit i = true → Before ops i j := by intro j i h; simp at h
  rcases h with h | h
  · exact .inl (prefs_ok ops ops [] (by simp) hn _ _ h)
  · exact .inr (prefs_ok ops ops [] (by simp) hn _ _ h)
theorem mem_zipIdx_of {α : Type} {l : List α} {i : Nat} {x : α} (h : l[i]? = some x) : (x, i) ∈ l.zipIdx := by
  rw [List.mem_zipIdx_iff_getElem?]; exact h
theorem drawOk_ok {ops : List RO} (h : drawOk ops = true) : DrawOk ops := by
  unfold drawOk at h
  simp only [Bool.and_eq_true, List.all_eq_true] at h
  obtain ⟨h1, h2⟩ := h
  refine ⟨fun j o hj i hi => by have := h1 _ (mem_zipIdx_of hj) i hi; simpa using this, fun i j oi oj hi hj hne => ?_⟩
  have := h2 _ (mem_zipIdx_of hi) _ (mem_zipIdx_of hj)
  simp only [Bool.or_eq_true, Bool.and_eq_true, beq_iff_eq] at this
  rcases this with (h | h) | ⟨⟨h3, h4⟩, h5⟩
  · exact absurd h hne
  · exact .inl (ordered_before h)
  · refine .inr ⟨fun ⟨a, b⟩ => by simp [a, b] at h3, fun ⟨a, b, c⟩ => by simp [a, b, c] at h4, fun d hd => ?_⟩
    rw [hd] at h5
    simp only [Bool.and_eq_true, Bool.not_eq_true', bne_iff_ne, ne_eq] at h5
    exact ⟨by simpa using h5.1, h5.2⟩
theorem drawPairs_mem {ops : List RO} {i j : Nat} {oi oj : RO} (hi : ops[i]? = some oi) (hj : ops[j]? = some oj) (h1 : oi.op.loud = false) (h2 : oj.op.loud = true) (h3 : ¬ Before ops i j) (h4 : ¬ Before ops j i) : (i, j) ∈ drawPairs ops := by
  unfold drawPairs
  simp only [List.mem_flatMap, List.mem_map, List.mem_filter]
  refine ⟨_, mem_zipIdx_of hi, _, ⟨mem_zipIdx_of hj, ?_⟩, rfl⟩
  simp only [h1, h2, Bool.not_false, Bool.true_and, Bool.not_eq_true']
  cases h : ordered (prefs ops []) i j
  · rfl
  · rcases ordered_before h with h | h
    · exact absurd h h3
    · exact absurd h h4

theorem Before.lt {ops : List RO} (ok : DrawOk ops) {i j : Nat} (h : Before ops i j) : i < j := by
  induction h with
  | edge h1 h2 => exact ok.back _ _ h1 _ h2
  | trans h1 h2 _ ih => have := ok.back _ _ h1 _ h2; omega
/-- What is done has its forerunners done. -/
def Down (ops : List RO) (D : Nat → Bool) : Prop := ∀ (j : Nat) (o : RO), ops[j]? = some o → D j = true → ∀ i ∈ o.after, D i = true
def Ripe (ops : List RO) (D : Nat → Bool) (j : Nat) : Prop := ∀ o : RO, ops[j]? = some o → ∀ i ∈ o.after, D i = true
theorem Before.down {ops : List RO} {D : Nat → Bool} (hd : Down ops D) {i j : Nat} (h : Before ops i j) : Ripe ops D j → D i = true := by
  induction h with
  | edge h1 h2 => intro hr; exact hr _ h1 _ h2
  | trans h1 h2 _ ih => intro hr; exact ih fun o ho i hi => hd _ o ho (hr _ h1 _ h2) i hi
theorem Before.done {ops : List RO} {D : Nat → Bool} (hd : Down ops D) {i j : Nat} (h : Before ops i j) (hj : D j = true) : D i = true :=
  h.down hd fun o ho i hi => hd j o ho hj i hi

/-! ### The run in the list's order -/
section
variable (E : Env) (cl : Nat → List AV → Heap → Option (AV × Heap))
structure Trace (ops : List RO) (S : Nat → List AV) (HH : Nat → Heap) (V : Nat → AV) (tr : List Tr) : Prop where
  slot : ∀ (k : Nat) (o : RO), ops[k]? = some o → S (k + 1) = putA (S k) o.dst (V k)
  run : ∀ (k : Nat) (o : RO), ops[k]? = some o → o.wanted (S k) = true → o.op.run E cl (S k) (HH k) = some (V k, HH (k + 1))
  skip : ∀ (k : Nat) (o : RO), ops[k]? = some o → o.wanted (S k) = false → V k = undef ∧ HH (k + 1) = HH k
  tr : ∀ (k : Nat) (o : RO), ops[k]? = some o → tr[k]? = some ⟨if o.wanted (S k) then o.op.foot E (S k) (HH k) else none, HH k, HH (k + 1)⟩
end
section
variable {E : Env} {cl : Nat → List AV → Heap → Option (AV × Heap)}
theorem runTr_trace : ∀ (ops : List RO) (s : List AV) (H : Heap) {s' : List AV} {H' : Heap} {tr : List Tr}, runTr E cl ops s H = some (s', H', tr) →
    ∃ (S : Nat → List AV) (HH : Nat → Heap) (V : Nat → AV), S 0 = s ∧ HH 0 = H ∧ S ops.length = s' ∧ HH ops.length = H' ∧ Trace E cl ops S HH V tr
  | [], s, H, s', H', tr, h => by
    simp only [runTr, Option.some.injEq, Prod.mk.injEq] at h
    obtain ⟨rfl, rfl, rfl⟩ := h
    exact ⟨fun _ => s, fun _ => H, fun _ => undef, rfl, rfl, rfl, rfl, ⟨by simp, by simp, by simp, by simp⟩⟩
  | o :: r, s, H, s', H', tr, h => by
    have key : ∀ (v : AV) (H1 : Heap) (ft : Option Nat) (tr1 : List Tr), runTr E cl r (putA s o.dst v) H1 = some (s', H', tr1) → tr = ⟨ft, H, H1⟩ :: tr1 →
        (o.wanted s = true → o.op.run E cl s H = some (v, H1)) → (o.wanted s = false → v = undef ∧ H1 = H) → (if o.wanted s then o.op.foot E s H else none) = ft →
        ∃ (S : Nat → List AV) (HH : Nat → Heap) (V : Nat → AV), S 0 = s ∧ HH 0 = H ∧ S (o :: r).length = s' ∧ HH (o :: r).length = H' ∧ Trace E cl (o :: r) S HH V tr := by
      intro v H1 ft tr1 h1 htr hr hs hf
      obtain ⟨S, HH, V, e1, e2, e3, e4, t⟩ := runTr_trace r _ _ h1
      subst htr
      refine ⟨fun k => match k with | 0 => s | k + 1 => S k, fun k => match k with | 0 => H | k + 1 => HH k, fun k => match k with | 0 => v | k + 1 => V k, rfl, rfl, e3, e4, ⟨?_, ?_, ?_, ?_⟩⟩
      · intro k o' ho
        cases k with
        | zero => simp at ho; subst ho; exact e1
        | succ k => exact t.slot k o' (by simpa using ho)
      · intro k o' ho hw
        cases k with
        | zero => simp at ho; subst ho; have := hr hw; simp only [e2]; exact this
        | succ k => exact t.run k o' (by simpa using ho) hw
      · intro k o' ho hw
        cases k with
        | zero => simp at ho; subst ho; simp only [e2]; exact hs hw
        | succ k => exact t.skip k o' (by simpa using ho) hw
      · intro k o' ho
        cases k with
        | zero => simp at ho; subst ho; simp only [e2, List.getElem?_cons_zero, hf]
        | succ k => exact t.tr k o' (by simpa using ho)
    simp only [runTr] at h
    split at h
    · rename_i hw
      cases hr : o.op.run E cl s H with
      | none => rw [hr] at h; cases h
      | some p =>
        obtain ⟨v, H1⟩ := p
        rw [hr] at h
        simp only [Option.bind_some] at h
        obtain ⟨⟨s2, H2, tr2⟩, h1, h2⟩ := Option.map_eq_some_iff.1 h
        injection h2 with h3 h4; injection h4 with h4 h5
        subst h3; subst h4
        exact key v H1 _ tr2 h1 h5.symm (fun _ => hr) (fun hf => absurd hw (by simp [hf])) (by simp [hw])
    · rename_i hw
      obtain ⟨⟨s2, H2, tr2⟩, h1, h2⟩ := Option.map_eq_some_iff.1 h
      injection h2 with h3 h4; injection h4 with h4 h5
      subst h3; subst h4
      exact key undef H none tr2 h1 h5.symm (fun h => absurd h hw) (fun _ => ⟨rfl, rfl⟩) (by simp [hw])
end
end Go.AM

/- What an operation looks at. -/
namespace Go.AM
set_option linter.unusedVariables false
set_option linter.unusedSimpArgs false

section
variable {E : Env} {cl : Nat → List AV → Heap → Option (AV × Heap)} {s s' : List AV}
theorem usesL_mem {n : Nat} : ∀ {xs : List RX}, RX.t n ∈ xs → n ∈ ROp.usesL xs
  | x :: r, h => by
    rcases List.mem_cons.1 h with h | h
    · subst h; simp [ROp.usesL]
    · have := usesL_mem h; cases x <;> simp [ROp.usesL, this]
theorem ev_congr {xs : List RX} (h : ∀ t ∈ ROp.usesL xs, s.getD t undef = s'.getD t undef) : ∀ x ∈ xs, x.ev E s = x.ev E s' := by
  intro x hx
  cases x with
  | t n => exact h n (usesL_mem hx)
  | c v => rfl
  | glob g => rfl
theorem map_ev_congr {xs : List RX} (h : ∀ x ∈ xs, x.ev E s = x.ev E s') : xs.map (RX.ev E s) = xs.map (RX.ev E s') := List.map_congr_left h
theorem parts_congr {ps : List (Nat × Nat × RX)} (h : ∀ x ∈ ps.map (·.2.2), x.ev E s = x.ev E s') : evParts E s ps = evParts E s' ps := by
  unfold evParts
  refine List.map_congr_left fun p hp => ?_
  rw [h p.2.2 (List.mem_map.2 ⟨p, hp, rfl⟩)]
theorem opt_congr {x : Option RX} (h : ∀ y ∈ x.toList, y.ev E s = y.ev E s') : x.map (RX.ev E s) = x.map (RX.ev E s') := by
  cases x with
  | none => rfl
  | some y => simp [h y (by simp)]
theorem run_congr {o : ROp} {H : Heap} (h : ∀ t ∈ ROp.usesL o.xs, s.getD t undef = s'.getD t undef) : o.run E cl s H = o.run E cl s' H := by
  have hk := ev_congr (E := E) h
  clear h
  cases o
  case build zero parts => simp only [ROp.xs] at hk; simp only [ROp.run, parts_congr hk]
  case bslice sh tag n zero parts => simp only [ROp.xs] at hk; simp only [ROp.run, parts_congr hk]
  case mkfn g cp => simp only [ROp.xs] at hk; simp only [ROp.run, map_ev_congr hk]
  case mkmap => rfl
  case slice sz x lo hi mx =>
    simp only [ROp.xs, List.mem_cons, List.mem_append] at hk
    simp only [ROp.run, hk x (.inl rfl), opt_congr (x := lo) fun y hy => hk y (.inr (.inl (.inl hy))), opt_congr (x := hi) fun y hy => hk y (.inr (.inl (.inr hy))), opt_congr (x := mx) fun y hy => hk y (.inr (.inr hy))]
  case call f args =>
    simp only [ROp.xs, List.mem_cons, forall_eq_or_imp] at hk
    simp only [ROp.run, hk.1, map_ev_congr hk.2]
  case fcall g args =>
    simp only [ROp.xs] at hk
    simp only [ROp.run, map_ev_congr hk]
  all_goals
    simp only [ROp.xs, List.mem_cons, List.not_mem_nil, or_false, forall_eq_or_imp, forall_eq] at hk
    simp only [ROp.run, hk]
theorem foot_congr {o : ROp} {H : Heap} (h : ∀ t ∈ ROp.usesL o.xs, s.getD t undef = s'.getD t undef) (H2 : Heap) : o.foot E s H = o.foot E s' H2 := by
  have hk := ev_congr (E := E) h
  clear h
  cases o <;> try rfl
  all_goals
    simp only [ROp.xs, List.mem_cons, List.not_mem_nil, or_false, forall_eq_or_imp, forall_eq] at hk
    simp only [ROp.foot, hk]
theorem wanted_congr {o : RO} (h : ∀ t ∈ o.uses, s.getD t undef = s'.getD t undef) : o.wanted s = o.wanted s' := by
  unfold RO.wanted
  cases hg : o.guard with
  | none => rfl
  | some g =>
    obtain ⟨t, w⟩ := g
    simp only
    rw [h t (by simp [RO.uses, hg])]
theorem uses_op {o : RO} {t : Nat} (h : t ∈ ROp.usesL o.op.xs) : t ∈ o.uses := by simp [RO.uses, h]

theorem pure_run {H H' : Heap} {x : Option AV} {v : AV} (h : x.map (fun v => (v, H)) = some (v, H')) : H' = H ∧ x = some v := by
  obtain ⟨y, hy, e⟩ := Option.map_eq_some_iff.1 h
  injection e with e1 e2
  subst e1; subst e2
  exact ⟨rfl, hy⟩
theorem elemsOf_congr {n : Nat} {H H2 : Heap} {x : AV} (h : ∀ b o l sh, x = .sl b o l sh → H2[b]? = H[b]?) : elemsOf n H2 x = elemsOf n H x := by
  cases x <;> try rfl
  rename_i b o l sh
  simp only [elemsOf, h b o l sh rfl]

theorem quiet_run {o : ROp} {H H' : Heap} {v : AV} (hl : o.loud = false) (ha : o.isAlloc = false) (h : o.run E cl s H = some (v, H')) :
    H' = H ∧ ∀ H2 : Heap, (∀ b, o.foot E s H = some b → H2[b]? = H[b]?) → o.run E cl s H2 = some (v, H2) := by
  have key : ∀ (X : Heap → Option AV), (∀ H2, o.run E cl s H2 = (X H2).map (fun v => (v, H2))) → (∀ H2 : Heap, (∀ b, o.foot E s H = some b → H2[b]? = H[b]?) → X H2 = X H) → H' = H ∧ ∀ H2 : Heap, (∀ b, o.foot E s H = some b → H2[b]? = H[b]?) → o.run E cl s H2 = some (v, H2) := by
    intro X hX hc
    rw [hX] at h
    obtain ⟨e, hx⟩ := pure_run h
    refine ⟨e, fun H2 hf => ?_⟩
    rw [hX, hc H2 hf, hx]; rfl
  cases o <;> simp only [ROp.loud, Bool.true_eq_false] at hl <;> simp only [ROp.isAlloc, Bool.true_eq_false] at ha
  case mov x => exact key (fun _ => some (x.ev E s)) (fun _ => rfl) fun _ _ => rfl
  case pick c a b => exact key (fun _ => match c.ev E s with | .bool t => some (if t then a.ev E s else b.ev E s) | _ => none) (fun _ => by simp only [ROp.run]; cases c.ev E s <;> rfl) fun _ _ => rfl
  case build zero ps => exact key (fun _ => (fillA zero (evParts E s ps)).map .agg) (fun _ => rfl) fun _ _ => rfl
  case load sh a =>
    refine key (fun H => loadA sh (a.ev E s) H) (fun _ => rfl) fun H2 hf => ?_
    simp only [ROp.foot] at hf
    generalize a.ev E s = x at hf
    cases x <;> try rfl
    rename_i b off
    simp only [loadA, hf b rfl]
  case nilchk x => exact key (fun _ => match x.ev E s with | .ptr b o => some (.ptr b o) | .dptr cs => some (.dptr cs) | .fn g cp => some (.fn g cp) | _ => none) (fun _ => by simp only [ROp.run]; cases x.ev E s <;> rfl) fun _ _ => rfl
  case bin op x y => exact key (fun _ => binop op (x.ev E s) (y.ev E s)) (fun _ => rfl) fun _ _ => rfl
  case eq k neg x y => exact key (fun _ => eqA k neg (x.ev E s) (y.ev E s)) (fun _ => rfl) fun _ _ => rfl
  case un op x => exact key (fun _ => unop op (x.ev E s)) (fun _ => rfl) fun _ _ => rfl
  case toInt k x => exact key (fun _ => match x.ev E s with | .int _ n => some (.int k (k.wrap n)) | _ => none) (fun _ => by simp only [ROp.run]; cases x.ev E s <;> rfl) fun _ _ => rfl
  case toStr bs x =>
    refine key (fun H => toStrA H bs (x.ev E s)) (fun _ => rfl) fun H2 hf => ?_
    simp only [ROp.foot] at hf
    generalize x.ev E s = y at hf
    cases bs <;> cases y <;> try rfl
    rename_i b off l sh
    simp only [toStrA, elemsOf, hf b rfl]
  case mkfn g cp => exact key (fun _ => some (.fn g (cp.map (RX.ev E s)))) (fun _ => rfl) fun _ _ => rfl
  case slice sz x lo hi mx => exact key (fun _ => sliceA sz (x.ev E s) (lo.map (RX.ev E s)) (hi.map (RX.ev E s)) (mx.map (RX.ev E s))) (fun _ => rfl) fun _ _ => rfl
  case faddr off x => exact key (fun _ => faddrA off (x.ev E s)) (fun _ => rfl) fun _ _ => rfl
  case field off sh x => exact key (fun _ => match x.ev E s with | .agg cs => mkv sh (cs.drop off) | _ => none) (fun _ => by simp only [ROp.run]; cases x.ev E s <;> rfl) fun _ _ => rfl
  case iaddr sh x i => exact key (fun _ => iaddrA sh (x.ev E s) (i.ev E s)) (fun _ => rfl) fun _ _ => rfl
  case aaddr n sh x i => exact key (fun _ => aaddrA n sh (x.ev E s) (evNat (i.ev E s))) (fun _ => rfl) fun _ _ => rfl
  case index n sh x i => exact key (fun _ => indexA n sh (x.ev E s) (i.ev E s)) (fun _ => rfl) fun _ _ => rfl
  case lookup kk zero m k ok =>
    refine key (fun H => lookupA kk zero (m.ev E s) (k.ev E s) ok H) (fun _ => rfl) fun H2 hf => ?_
    simp only [ROp.foot] at hf
    have : mapOf (m.ev E s) H2 = mapOf (m.ev E s) H := by
      generalize m.ev E s = y at hf
      cases y <;> try rfl
      rename_i b
      simp only [mapOf, hf b rfl]
    simp only [lookupA, this]
  case ext x i => exact key (fun _ => match x.ev E s with | .tup vs => vs[i]? | _ => none) (fun _ => by simp only [ROp.run]; cases x.ev E s <;> rfl) fun _ _ => rfl
  case mkif t x => exact key (fun _ => some (.iface t (x.ev E s))) (fun _ => rfl) fun _ _ => rfl
  case len lk x =>
    refine key (fun H => lenA H lk (x.ev E s)) (fun _ => rfl) fun H2 hf => ?_
    simp only [ROp.foot] at hf
    generalize x.ev E s = y at hf
    cases lk <;> cases y <;> try rfl
    rename_i b
    simp only [lenA, hf b rfl]
  case cap x => exact key (fun _ => match x.ev E s with | .nils => some (.int .i64 0) | _ => none) (fun _ => by simp only [ROp.run]; cases x.ev E s <;> rfl) fun _ _ => rfl
  case min x y => exact key (fun _ => match x.ev E s, y.ev E s with | .int k a, .int _ b => some (.int k (if b < a then b else a)) | _, _ => none) (fun _ => by simp only [ROp.run]; cases x.ev E s <;> cases y.ev E s <;> rfl) fun _ _ => rfl
  case max x y => exact key (fun _ => match x.ev E s, y.ev E s with | .int k a, .int _ b => some (.int k (if a < b then b else a)) | _, _ => none) (fun _ => by simp only [ROp.run]; cases x.ev E s <;> cases y.ev E s <;> rfl) fun _ _ => rfl
  case sdata x => exact key (fun _ => match x.ev E s with | .nils => some .nilp | .sl b off ln _ => if 0 < ln then some (.ptr b off) else none | _ => none) (fun _ => by
      simp only [ROp.run]
      cases x.ev E s <;> try rfl
      simp only
      split <;> rfl) fun _ _ => rfl

theorem foot_dom {L : Link} {w : World} {ρ : Map} {H H0 : Heap} {a : Act} (hs : SR L E w ρ H s a) {o : ROp} {p : Op} (m : mOp L E o p = true) {b : Nat} (h : o.foot E s H0 = some b) : ∃ x, ρ b = some x := by
  cases o <;> simp only [ROp.foot] at h <;> try cases h
  case load sh x =>
    simp only [mOp] at m
    split at m
    case h_2 => cases m
    simp only [Bool.and_eq_true] at m
    have hv := hs.ev m.1
    split at h <;> cases h
    rename_i hx
    rw [hx] at hv
    generalize a.eval _ = y at hv
    cases hv with | ptr hp => exact ⟨_, hp⟩
  case toStr bs x =>
    simp only [mOp] at m
    split at m
    case h_2 => cases m
    simp only [Bool.and_eq_true] at m
    have hv := hs.ev m.2
    split at h <;> cases h
    rename_i hx
    rw [hx] at hv
    generalize a.eval _ = y at hv
    cases hv with | sl hp _ _ => exact ⟨_, hp⟩
  case lookup kk zero x k ok =>
    simp only [mOp] at m
    split at m
    case h_2 => cases m
    simp only [Bool.and_eq_true] at m
    have hv := hs.ev m.1.1.1
    split at h <;> cases h
    rename_i hx
    rw [hx] at hv
    generalize a.eval _ = y at hv
    cases hv with | map hp => exact ⟨_, hp⟩
  case len lk x =>
    simp only [mOp] at m
    split at m
    case h_2 => cases m
    split at m
    case h_2 => cases m
    simp only [Bool.and_eq_true] at m
    have hv := hs.ev m.1
    split at h <;> cases h
    rename_i hx
    rw [hx] at hv
    generalize a.eval _ = y at hv
    cases hv with | map hp => exact ⟨_, hp⟩
theorem foot_some {o : ROp} {H H' : Heap} {v : AV} (h : o.run E cl s H = some (v, H')) {b : Nat} (hf : o.foot E s H = some b) (hl : o.loud = false) : b < H.length ∨ o.isAlloc = true := by
  cases o <;> simp only [ROp.foot] at hf <;> try cases hf
  case load sh x =>
    left
    replace h := (pure_run h).2
    split at hf <;> cases hf
    rename_i hx
    rw [hx] at h
    simp only [loadA] at h
    split at h
    · rename_i hb; exact (List.getElem?_eq_some_iff.1 hb).1
    · rename_i hb; exact (List.getElem?_eq_some_iff.1 hb).1
    · cases h
  case toStr bs x =>
    left
    replace h := (pure_run h).2
    split at hf <;> cases hf
    rename_i hx
    rw [hx] at h
    cases bs
    · simp [toStrA] at h
    · simp only [toStrA, elemsOf] at h
      cases hb : H[b]? with
      | none => rw [hb] at h; split at h <;> simp_all
      | some y => exact (List.getElem?_eq_some_iff.1 hb).1
  case lookup kk zero x k ok =>
    left
    replace h := (pure_run h).2
    split at hf <;> cases hf
    rename_i hx
    rw [hx] at h
    cases hb : H[b]? with
    | none => simp [lookupA, mapOf, hb] at h
    | some y => exact (List.getElem?_eq_some_iff.1 hb).1
  case len lk x =>
    left
    replace h := (pure_run h).2
    split at hf <;> cases hf
    rename_i hx
    rw [hx] at h
    cases hb : H[b]? with
    | none => cases lk <;> simp [lenA, hb] at h
    | some y => exact (List.getElem?_eq_some_iff.1 hb).1
end
end Go.AM

/- A region whose order is open: what holds on the way, whatever is done already. -/
namespace Go.AM
set_option linter.unusedVariables false
set_option linter.unusedSimpArgs false

section
variable (ops : List RO) (s0 : List AV) (V : Nat → AV)
def maskN (D : Nat → Bool) : Nat → List AV
  | 0 => s0
  | k + 1 => if D k = true then putA (maskN D k) ((ops[k]?).bind (·.dst)) (V k) else maskN D k
end
def also (D : Nat → Bool) (j : Nat) : Nat → Bool := fun i => D i || i == j

theorem putA_length (s : List AV) (d : Option Nat) (v : AV) : (putA s d v).length = s.length := by cases d <;> simp [putA]
theorem putA_other {s : List AV} {d : Option Nat} {v : AV} {t : Nat} (h : d ≠ some t) : (putA s d v).getD t undef = s.getD t undef := by
  cases d with
  | none => rfl
  | some d =>
    have : d ≠ t := fun e => h (by rw [e])
    simp [putA, List.getD_eq_getElem?_getD, List.getElem?_set_ne this]
theorem putA_congr {s s' : List AV} (hl : s.length = s'.length) {t : Nat} (h : s.getD t undef = s'.getD t undef) (d : Option Nat) (v : AV) : (putA s d v).getD t undef = (putA s' d v).getD t undef := by
  cases d with
  | none => exact h
  | some d =>
    by_cases e : d = t
    · subst e
      simp only [putA, List.getD_eq_getElem?_getD, List.getElem?_set_self', hl]
      by_cases hd : d < s'.length
      · rw [List.getElem?_eq_getElem hd, List.getElem?_eq_getElem (by omega)]; rfl
      · rw [List.getElem?_eq_none (by omega), List.getElem?_eq_none (by omega)]
    · rw [putA_other (by simpa using e), putA_other (by simpa using e)]; exact h
theorem putA_comm {s : List AV} {d e : Option Nat} {v u : AV} (h : ∀ x, d = some x → e ≠ some x) : putA (putA s d v) e u = putA (putA s e u) d v := by
  cases d with
  | none => rfl
  | some d => cases e with
    | none => rfl
    | some e =>
      have : d ≠ e := fun he => h d rfl (by rw [he])
      simp [putA, List.set_comm _ _ this]

section
variable {E : Env} {cl : Nat → List AV → Heap → Option (AV × Heap)} {ops : List RO} {S : Nat → List AV} {HH : Nat → Heap} {V : Nat → AV} {tr : List Tr} {D : Nat → Bool}
theorem maskN_length (s0 : List AV) : ∀ k, (maskN ops s0 V D k).length = s0.length
  | 0 => rfl
  | k + 1 => by unfold maskN; split <;> simp [putA_length, maskN_length s0 k]
theorem Trace.len (t : Trace E cl ops S HH V tr) : ∀ k, k ≤ ops.length → (S k).length = (S 0).length
  | 0, _ => rfl
  | k + 1, h => by rw [t.slot k ops[k] (List.getElem?_eq_getElem h), putA_length, t.len k (by omega)]

theorem mask_uses (t : Trace E cl ops S HH V tr) (ok : DrawOk ops) (hd : Down ops D) {j : Nat} {oj : RO} (hj : ops[j]? = some oj) (hr : Ripe ops D j) (hn : D j = false) {x : Nat} (hx : x ∈ oj.uses) :
    (maskN ops (S 0) V D ops.length).getD x undef = (S j).getD x undef := by
  have hjl : j < ops.length := (List.getElem?_eq_some_iff.1 hj).1
  have step1 : ∀ k, k ≤ j → (maskN ops (S 0) V D k).getD x undef = (S k).getD x undef := by
    intro k
    induction k with
    | zero => intro _; rfl
    | succ k ih =>
      intro hk
      have hkl : k < ops.length := by omega
      have ho : ops[k]? = some ops[k] := List.getElem?_eq_getElem hkl
      rw [t.slot k _ ho]
      unfold maskN
      split
      · rw [ho]
        exact putA_congr (by rw [maskN_length, t.len k (by omega)]) (ih (by omega)) _ _
      · rename_i hDk
        rw [ih (by omega), putA_other]
        intro he
        rcases ok.pair k j _ _ ho hj (by omega) with (h | h) | ⟨_, _, h⟩
        · exact hDk (h.down hd hr)
        · have := h.lt ok; omega
        · exact (h x he).1 hx
  have step2 : ∀ k, j ≤ k → k ≤ ops.length → (maskN ops (S 0) V D k).getD x undef = (maskN ops (S 0) V D j).getD x undef := by
    intro k
    induction k with
    | zero => intro h _; have : j = 0 := by omega
              subst this; rfl
    | succ k ih =>
      intro hjk hk
      by_cases e : j = k + 1
      · subst e; rfl
      · have hkl : k < ops.length := by omega
        have ho : ops[k]? = some ops[k] := List.getElem?_eq_getElem hkl
        rw [← ih (by omega) (by omega)]
        rw [maskN]
        split
        · rename_i hDk
          refine putA_other ?_
          rw [ho]
          intro he
          have hne : k ≠ j := by rintro rfl; rw [hn] at hDk; cases hDk
          rcases ok.pair k j _ _ ho hj hne with (h | h) | ⟨_, _, h⟩
          · have := h.lt ok; omega
          · rw [h.done hd hDk] at hn; cases hn
          · exact (h x (by simpa using he)).1 hx
        · rfl
  rw [step2 _ (by omega) (Nat.le_refl _), step1 _ (Nat.le_refl _)]

theorem mask_put (ok : DrawOk ops) (hd : Down ops D) {j : Nat} {oj : RO} (hj : ops[j]? = some oj) (hn : D j = false) (s0 : List AV) :
    maskN ops s0 V (also D j) ops.length = putA (maskN ops s0 V D ops.length) oj.dst (V j) := by
  have hjl : j < ops.length := (List.getElem?_eq_some_iff.1 hj).1
  have step1 : ∀ k, k ≤ j → maskN ops s0 V (also D j) k = maskN ops s0 V D k := by
    intro k
    induction k with
    | zero => intro _; rfl
    | succ k ih =>
      intro hk
      have : also D j k = D k := by have : (k == j) = false := by simp; omega
                                    simp [also, this]
      simp only [maskN, this, ih (by omega)]
  have step2 : ∀ k, j < k → k ≤ ops.length → maskN ops s0 V (also D j) k = putA (maskN ops s0 V D k) oj.dst (V j) := by
    intro k
    induction k with
    | zero => intro h _; omega
    | succ k ih =>
      intro hjk hk
      by_cases e : j = k
      · subst e
        have : also D j j = true := by simp [also]
        simp [maskN, this, hn, hj, step1 j (Nat.le_refl _)]
      · have hkl : k < ops.length := by omega
        have ho : ops[k]? = some ops[k] := List.getElem?_eq_getElem hkl
        have : also D j k = D k := by have : (k == j) = false := by simp; omega
                                      simp [also, this]
        simp only [maskN, this, ih (by omega) (by omega)]
        split
        · rename_i hDk
          refine putA_comm fun d h1 h2 => ?_
          rw [ho] at h2
          rcases ok.pair j k _ _ hj ho e with (h | h) | ⟨_, _, h⟩
          · rw [h.done hd hDk] at hn; cases hn
          · have := h.lt ok; omega
          · exact (h d h1).2 (by simpa using h2)
        · rfl
  exact step2 _ hjl (Nat.le_refl _)
theorem mask_all (t : Trace E cl ops S HH V tr) (h : ∀ k, k < ops.length → D k = true) : ∀ k, k ≤ ops.length → maskN ops (S 0) V D k = S k
  | 0, _ => rfl
  | k + 1, hk => by
    have ho : ops[k]? = some ops[k] := List.getElem?_eq_getElem (by omega)
    rw [maskN, if_pos (h k (by omega)), mask_all t h k (by omega), t.slot k _ ho, ho]; rfl
theorem mask_none (s0 : List AV) : ∀ k, maskN ops s0 V (fun _ => false) k = s0
  | 0 => rfl
  | k + 1 => by simp [maskN, mask_none s0 k]

theorem alloc_app {s : List AV} {o : ROp} (ha : o.isAlloc = true) {H H' : Heap} {v : AV} (h : o.run E cl s H = some (v, H')) : ∃ blk, H' = H ++ [blk] := by
  cases o <;> simp only [ROp.isAlloc, Bool.false_eq_true] at ha
  case box x =>
    replace h : (if (x.ev E s).cells.all AV.isCell then some (AV.ptr H.length 0, H ++ [Blk.cells (x.ev E s).cells]) else none) = some (v, H') := h
    split at h
    · injection h with h; injection h with h1 h2; exact ⟨_, h2.symm⟩
    · cases h
  case bslice sh tag n zero ps =>
    replace h : (fillA (repC zero n) (evParts E s ps)).map (fun cs => (AV.sl H.length 0 n sh, H ++ [Blk.arr (szOf sh) tag 0 cs])) = some (v, H') := h
    obtain ⟨cs, _, h3⟩ := Option.map_eq_some_iff.1 h
    injection h3 with h4 h5; exact ⟨_, h5.symm⟩
  case mkmap =>
    replace h : some (AV.map H.length, H ++ [Blk.map [] []]) = some (v, H') := h
    injection h with h; injection h with h1 h2; exact ⟨_, h2.symm⟩
theorem Trace.quiet (t : Trace E cl ops S HH V tr) {k : Nat} {o : RO} (ho : ops[k]? = some o) (hl : o.op.loud = false) : HH (k + 1) = HH k ∨ (o.op.isAlloc = true ∧ o.wanted (S k) = true ∧ ∃ blk, HH (k + 1) = HH k ++ [blk]) := by
  cases hw : o.wanted (S k)
  · exact .inl (t.skip k o ho hw).2
  · have hr := t.run k o ho hw
    cases ha : o.op.isAlloc
    · exact .inl (quiet_run hl ha hr).1
    · exact .inr ⟨rfl, rfl, alloc_app ha hr⟩
theorem Trace.mono (t : Trace E cl ops S HH V tr) (hc : ∀ x ∈ tr, x.before.length ≤ x.after.length) {i j : Nat} (h : i ≤ j) (hj : j ≤ ops.length) : (HH i).length ≤ (HH j).length := by
  induction j with
  | zero => have : i = 0 := by omega
            subst this; exact Nat.le_refl _
  | succ j ih =>
    by_cases e : i = j + 1
    · subst e; exact Nat.le_refl _
    · have ho : ops[j]? = some ops[j] := List.getElem?_eq_getElem (by omega)
      have := hc _ (List.mem_of_getElem? (t.tr j _ ho))
      exact Nat.le_trans (ih (by omega) (by omega)) this
end
end Go.AM

/- A region whose order is open: sound. -/
namespace Go.AM
set_option linter.unusedVariables false
set_option linter.unusedSimpArgs false

section
variable (L : Link) (E : Env) (cl : Nat → List AV → Heap → Option (AV × Heap)) (ops : List RO) (S : Nat → List AV) (HH : Nat → Heap) (V : Nat → AV)
/-- 'm' of the loud operations are done, and of the blocks those that stand ahead of 'm' may be to come. -/
structure Inv (w0 : World) (ρ0 : Map) (H0 : Heap) (ds : List Deferred) (D : Nat → Bool) (m : Nat) (w : World) (ρ : Map) (a : Act) : Prop where
  le : m ≤ ops.length
  lo : ∀ (k : Nat) (o : RO), ops[k]? = some o → o.op.loud = true → (D k = true ↔ k < m)
  al : ∀ (k : Nat) (o : RO), ops[k]? = some o → o.op.isAlloc = true → m ≤ k → D k = false
  down : Down ops D
  sr : SR L E w ρ (HH m) (maskN ops (S 0) V D ops.length) a
  ext : Ext w0 ρ0 H0 w ρ (HH m)
  gh : ∀ (k : Nat) (o : RO), ops[k]? = some o → o.op.isAlloc = true → k < m → D k = false → o.wanted (S k) = true → ρ (HH k).length = none ∧ (HH m)[(HH k).length]? = (HH (k + 1))[(HH k).length]?
  dfs : a.defers = ds
end

section
variable {L : Link} {E : Env} {cl : Nat → List AV → Heap → Option (AV × Heap)} {ops : List RO} {S : Nat → List AV} {HH : Nat → Heap} {V : Nat → AV} {tr : List Tr} {w0 w : World} {ρ0 ρ : Map} {H0 : Heap} {ds : List Deferred} {D : Nat → Bool} {m : Nat} {a : Act}
theorem ext_app {H : Heap} (hr : HR L w ρ H) (e : Ext w0 ρ0 H0 w ρ H) (G : Heap) : Ext w0 ρ0 H0 w ρ (H ++ G) where
  os := e.os
  tape := e.tape
  output := e.output
  size := e.size
  keep := e.keep
  shape := e.shape
  ext := e.ext
  mine c hc h := e.mine c hc ((mine_app hr G c).1 h)
  bar := e.bar
  ghost b hb hn := by
    have := e.ghost b hb hn
    exact ⟨this.1, by rw [List.getElem?_append_left (by have := e.len; omega)]; exact this.2⟩
  len := by have := e.len; simp; omega
  dead b hb := by
    have := e.dead b hb
    have hlt : b < H.length := (List.getElem?_eq_some_iff.1 this).1
    rw [List.getElem?_append_left hlt]; exact this

theorem Inv.next (t : Trace E cl ops S HH V tr) (hc : ∀ x ∈ tr, x.before.length ≤ x.after.length) (h : Inv L E ops S HH V w0 ρ0 H0 ds D m w ρ a) {o : RO} (ho : ops[m]? = some o) (hl : o.op.loud = false) : Inv L E ops S HH V w0 ρ0 H0 ds D (m + 1) w ρ a := by
  have hm : m < ops.length := (List.getElem?_eq_some_iff.1 ho).1
  have hlo : ∀ (k : Nat) (o : RO), ops[k]? = some o → o.op.loud = true → (D k = true ↔ k < m + 1) := by
    intro k o' ho' hl'
    rw [h.lo k o' ho' hl']
    have : k ≠ m := by rintro rfl; rw [ho] at ho'; injection ho' with ho'; subst ho'; rw [hl] at hl'; cases hl'
    omega
  have hal : ∀ (k : Nat) (o : RO), ops[k]? = some o → o.op.isAlloc = true → m + 1 ≤ k → D k = false := fun k o h1 h2 h3 => h.al k o h1 h2 (by omega)
  have hq : ∃ G, HH (m + 1) = HH m ++ G := by
    rcases t.quiet ho hl with h | ⟨_, _, blk, h⟩
    · exact ⟨[], by simp [h]⟩
    · exact ⟨[blk], h⟩
  obtain ⟨G, hG⟩ := hq
  refine ⟨hm, hlo, hal, h.down, ?_, ?_, ?_, h.dfs⟩
  · rw [hG]; exact h.sr.app G
  · rw [hG]; exact ext_app h.sr.hr h.ext G
  · intro k o' ho' ha' hk hD hw
    by_cases e : k = m
    · subst e
      exact ⟨h.sr.hr.none_of_ge (Nat.le_refl _), rfl⟩
    · have h1 := h.gh k o' ho' ha' (by omega) hD hw
      refine ⟨h1.1, ?_⟩
      have hr := t.run k o' ho' hw
      obtain ⟨blk, hb⟩ := alloc_app ha' hr
      have hlen : (HH (k + 1)).length ≤ (HH m).length := t.mono hc (by omega) (by omega)
      rw [hG, List.getElem?_append_left (by rw [hb] at hlen; simp at hlen; omega)]
      exact h1.2
theorem Inv.stable (t : Trace E cl ops S HH V tr) (hc : ∀ x ∈ tr, x.before.length ≤ x.after.length) : ∀ (n m : Nat), ops.length - m = n → Inv L E ops S HH V w0 ρ0 H0 ds D m w ρ a →
    ∃ m, Inv L E ops S HH V w0 ρ0 H0 ds D m w ρ a ∧ (m = ops.length ∨ ∃ o, ops[m]? = some o ∧ o.op.loud = true) := by
  intro n
  induction n with
  | zero => intro m hm h; exact ⟨m, h, .inl (by have := h.le; omega)⟩
  | succ n ih =>
    intro m hm h
    have ho : ops[m]? = some ops[m] := List.getElem?_eq_getElem (by omega)
    cases hl : ops[m].op.loud
    · exact ih (m + 1) (by omega) (h.next t hc ho hl)
    · exact ⟨m, h, .inr ⟨_, ho, hl⟩⟩

theorem chain {α : Type} {f : Nat → α} {i : Nat} : ∀ {j : Nat}, i ≤ j → (∀ k, i ≤ k → k < j → f (k + 1) = f k) → f j = f i
  | 0, h, _ => by have : i = 0 := by omega
                  subst this; rfl
  | j + 1, h, hs => by
    by_cases e : i = j + 1
    · subst e; rfl
    · rw [hs j (by omega) (by omega)]
      exact chain (by omega) fun k h1 h2 => hs k h1 (by omega)

theorem foot_same (t : Trace E cl ops S HH V tr) (ok : DrawOk ops) (hc : ∀ x ∈ tr, x.before.length ≤ x.after.length) (hp : (drawPairs ops).all (pairOk tr) = true) (h : Inv L E ops S HH V w0 ρ0 H0 ds D m w ρ a) {j : Nat} {oj : RO} (hj : ops[j]? = some oj)
    (hr : Ripe ops D j) (hn : D j = false) (hl : oj.op.loud = false) (hw : oj.wanted (S j) = true) {b : Nat} (hf : oj.op.foot E (S j) (HH j) = some b) (h1 : b < (HH j).length) (h2 : b < (HH m).length) : (HH m)[b]? = (HH j)[b]? := by
  have hjl : j < ops.length := (List.getElem?_eq_some_iff.1 hj).1
  have key : ∀ k, k < ops.length → b < (HH k).length → ((∃ o, ops[k]? = some o ∧ o.op.loud = true) → ¬ Before ops j k ∧ ¬ Before ops k j) → (HH (k + 1))[b]? = (HH k)[b]? := by
    intro k hk hb hun
    have ho : ops[k]? = some ops[k] := List.getElem?_eq_getElem hk
    cases hlk : ops[k].op.loud
    · rcases t.quiet ho hlk with h | ⟨_, _, blk, h⟩
      · rw [h]
      · rw [h, List.getElem?_append_left hb]
    · obtain ⟨u1, u2⟩ := hun ⟨_, ho, hlk⟩
      have hm := List.all_eq_true.1 hp _ (drawPairs_mem hj ho hl hlk u1 u2)
      unfold pairOk at hm
      rw [t.tr j _ hj, t.tr k _ ho] at hm
      simp only [hw, if_true, hf, Bool.or_eq_true, decide_eq_true_eq] at hm
      rcases hm with hm | hm
      · omega
      · exact hm
  rcases Nat.le_total j m with hjm | hjm
  · refine chain (f := fun k => (HH k)[b]?) hjm fun k hk1 hk2 => ?_
    have hkl : k < ops.length := by have := h.le; omega
    refine key k hkl (Nat.lt_of_lt_of_le h1 (t.mono hc hk1 (by omega))) ?_
    rintro ⟨o, ho, hlo⟩
    have hD := (h.lo k o ho hlo).2 hk2
    exact ⟨fun hb => (by rw [hb.done h.down hD] at hn; cases hn), fun hb => by have := hb.lt ok; omega⟩
  · refine (chain (f := fun k => (HH k)[b]?) hjm fun k hk1 hk2 => ?_).symm
    have hkl : k < ops.length := by omega
    refine key k hkl (Nat.lt_of_lt_of_le h2 (t.mono hc hk1 (by omega))) ?_
    rintro ⟨o, ho, hlo⟩
    have hD : ¬ D k = true := fun hD => by have := (h.lo k o ho hlo).1 hD; omega
    exact ⟨fun hb => by have := hb.lt ok; omega, fun hb => hD (hb.down h.down hr)⟩

theorem down_also (hd : Down ops D) {j : Nat} (hr : Ripe ops D j) : Down ops (also D j) := by
  intro k o ho hk i hi
  simp only [also, Bool.or_eq_true, beq_iff_eq] at hk ⊢
  rcases hk with hk | rfl
  · exact .inl (hd k o ho hk i hi)
  · exact .inl (hr o ho i hi)
theorem also_other {j k : Nat} (h : k ≠ j) : also D j k = D k := by
  have : (k == j) = false := by simpa using h
  simp [also, this]

/-- One more is done. -/
theorem Inv.step (hcl : CallS L E cl) (t : Trace E cl ops S HH V tr) (ok : DrawOk ops) (hc : ∀ x ∈ tr, x.before.length ≤ x.after.length) (hp : (drawPairs ops).all (pairOk tr) = true) (h : Inv L E ops S HH V w0 ρ0 H0 ds D m w ρ a)
    (hm : m = ops.length ∨ ∃ o, ops[m]? = some o ∧ o.op.loud = true) (hge : H0.length ≤ (HH 0).length) {j : Nat} {oj : RO} (hj : ops[j]? = some oj) (hr : Ripe ops D j) (hn : D j = false)
    {ps : Array Oper} {p : Oper} (hps : ps[oj.ix]? = some p) (mm : mRO L E ps oj p = true) {K : Act → World → Prop} {Q : Exit → Act → World → Prop}
    (hK : ∀ a' w' ρ' m', Inv L E ops S HH V w0 ρ0 H0 ds (also D j) m' w' ρ' a' → K a' w') : wpOp L.P ps Q oj.ix K a w := by
  have hjl : j < ops.length := (List.getElem?_eq_some_iff.1 hj).1
  have mm' := mm
  simp only [mRO, Bool.and_eq_true, beq_iff_eq] at mm'
  obtain ⟨⟨m1, m2⟩, m3⟩ := mm'
  have huse : ∀ x ∈ oj.uses, (maskN ops (S 0) V D ops.length).getD x undef = (S j).getD x undef := fun x hx => mask_uses t ok h.down hj hr hn hx
  have huse2 : ∀ x ∈ ROp.usesL oj.op.xs, (maskN ops (S 0) V D ops.length).getD x undef = (S j).getD x undef := fun x hx => huse x (uses_op hx)
  have hwant : Region.wanted p (yielded ps a.tmps) = oj.wanted (S j) := by rw [wanted_ok h.sr m3, wanted_congr huse]
  have hput := mask_put (V := V) ok h.down hj hn (S 0)
  have hdn := down_also h.down hr
  have hnotm : ∀ o, ops[m]? = some o → o.op.loud = true → D m = false := fun o ho hl => by
    cases hD : D m
    · rfl
    · have := (h.lo m o ho hl).1 hD; omega
  -- a block's maker stands ahead of m; a loud one is m
  have halloc : oj.op.isAlloc = true → j < m := by
    intro ha
    rcases hm with hm | ⟨o, ho, hl⟩
    · omega
    · have hne : j ≠ m := by
        rintro rfl
        rw [hj] at ho; injection ho with ho; subst ho
        cases hop : oj.op <;> rw [hop] at ha hl <;> simp [ROp.isAlloc, ROp.loud] at ha hl
      rcases Nat.lt_or_ge j m with h' | h'
      · exact h'
      · rcases ok.pair j m _ _ hj ho hne with (hb | hb) | ⟨_, hb, _⟩
        · have := hb.lt ok; omega
        · have := hb.down h.down hr; rw [hnotm o ho hl] at this; cases this
        · exact absurd ⟨ha, hl, by omega⟩ hb
  have hloud : oj.op.loud = true → j = m := by
    intro hlj
    have h1 : ¬ j < m := fun hlt => by rw [(h.lo j oj hj hlj).2 hlt] at hn; cases hn
    rcases hm with hm | ⟨o, ho, hl⟩
    · omega
    · by_cases e : j = m
      · exact e
      · rcases ok.pair j m _ _ hj ho e with (hb | hb) | ⟨hb, _, _⟩
        · have := hb.lt ok; omega
        · have := hb.down h.down hr; rw [hnotm o ho hl] at this; cases this
        · exact absurd ⟨hlj, hl⟩ hb
  have hal : ∀ m', m ≤ m' → ∀ (k : Nat) (o : RO), ops[k]? = some o → o.op.isAlloc = true → m' ≤ k → also D j k = false := by
    intro m' hmm k o ho ha hk
    have : k ≠ j := by
      rintro rfl
      rw [hj] at ho; injection ho with ho; subst ho
      have := halloc ha; omega
    rw [also_other this]; exact h.al k o ho ha (by omega)
  have hnl : oj.op.loud = false → ∀ (k : Nat) (o : RO), ops[k]? = some o → o.op.loud = true → (also D j k = true ↔ k < m) := by
    intro hl k o ho hlo
    have : k ≠ j := by rintro rfl; rw [hj] at ho; injection ho with ho; subst ho; rw [hl] at hlo; cases hlo
    rw [also_other this]; exact h.lo k o ho hlo
  have hlm : oj.op.loud = true → ∀ (k : Nat) (o : RO), ops[k]? = some o → o.op.loud = true → (also D j k = true ↔ k < m + 1) := by
    intro hl k o ho hlo
    have e := hloud hl
    by_cases e' : k = j
    · subst e'; simp [also]; omega
    · rw [also_other e', h.lo k o ho hlo]; omega
  have hlt : ∀ (k : Nat) (o : RO), ops[k]? = some o → o.op.isAlloc = true → k < m → o.wanted (S k) = true → (HH k).length < (HH m).length := by
    intro k o ho ha hk hw
    obtain ⟨blk, hb⟩ := alloc_app ha (t.run k o ho hw)
    have : (HH (k + 1)).length ≤ (HH m).length := t.mono hc (by omega) h.le
    rw [hb] at this; simp at this; omega
  unfold wpOp
  rw [hps]
  simp only [hwant]
  cases hw : oj.wanted (S j)
  · -- not asked for
    simp only [Bool.false_eq_true, if_false]
    obtain ⟨hv, hh⟩ := t.skip j oj hj hw
    have hsr : SR L E w ρ (HH m) (maskN ops (S 0) V (also D j) ops.length) (a.put p.dst Go.undef) := by
      rw [hput, hv, m1]
      exact h.sr.put (Ext.refl _ _ _) h.sr.hr VR.undef _
    cases hl : oj.op.loud
    · refine hK _ w ρ m ⟨h.le, hnl hl, hal m (Nat.le_refl _), hdn, hsr, h.ext, ?_, by rw [put_defers]; exact h.dfs⟩
      intro k o ho ha hk hD hwk
      by_cases e : k = j
      · subst e; simp [also] at hD
      · rw [also_other e] at hD; exact h.gh k o ho ha hk hD hwk
    · have e := hloud hl
      subst e
      refine hK _ w ρ (j + 1) ⟨hjl, hlm hl, hal (j + 1) (by omega), hdn, by rw [hh]; exact hsr, by rw [hh]; exact h.ext, ?_, by rw [put_defers]; exact h.dfs⟩
      intro k o ho ha hk hD hwk
      have e : k ≠ j := by rintro rfl; simp [also] at hD
      rw [also_other e] at hD
      rw [hh]
      exact h.gh k o ho ha (by omega) hD hwk
  · simp only [if_true]
    refine .inl ?_
    have hrun := t.run j oj hj hw
    cases hl : oj.op.loud
    · cases ha : oj.op.isAlloc
      · -- quiet
        have hq := quiet_run hl ha hrun
        have hrm : oj.op.run E cl (S j) (HH m) = some (V j, HH m) := by
          refine hq.2 (HH m) fun b hb => ?_
          have h1 : b < (HH j).length := (foot_some hrun hb hl).resolve_right (by simp [ha])
          have hb' : oj.op.foot E (maskN ops (S 0) V D ops.length) (HH m) = some b := by rw [foot_congr huse2 (HH j)]; exact hb
          obtain ⟨⟨c, base⟩, hx⟩ := foot_dom h.sr m2 hb'
          exact foot_same t ok hc hp h hj hr hn hl hw hb h1 (h.sr.hr.dom b c base hx).1
        rw [← run_congr huse2] at hrm
        refine step_op h.sr hcl mm hrm fun x w' ρ' e hs' => ?_
        rw [← m1] at hs'
        refine hK _ w' ρ' m ⟨h.le, hnl hl, hal m (Nat.le_refl _), hdn, by rw [hput, ← m1]; exact hs', h.ext.trans e, ?_, by rw [put_defers]; exact h.dfs⟩
        intro k o ho hak hk hD hwk
        have e' : k ≠ j := by rintro rfl; simp [also] at hD
        rw [also_other e'] at hD
        have hg := h.gh k o ho hak hk hD hwk
        have he := e.ghost _ (hlt k o ho hak hk hwk) hg.1
        exact ⟨he.1, hg.2⟩
      · -- a block that stands already
        have hjm := halloc ha
        have hg := h.gh j oj hj ha hjm hn hw
        rw [← run_congr huse2] at hrun
        obtain ⟨blk, mk, hv, hh, hnew⟩ := alloc_new h.sr m2 ha hrun
        have hb : (HH m)[(HH j).length]? = some blk := by rw [hg.2, hh]; simp
        refine ghost_run h.sr hnew hg.1 hb ?_
        intro x o' w' hs'
        have hx : blk ≠ .dead := by obtain ⟨_, _, _, hx, _⟩ := hnew; exact hx
        have ec := ext_put (w := w) (ρ := ρ) hg.1 hb hx o'
        have hge0 : H0.length ≤ (HH j).length := Nat.le_trans hge (t.mono hc (by omega) (by omega))
        refine hK _ w' _ m ⟨h.le, hnl hl, hal m (Nat.le_refl _), hdn, by rw [hput, ← m1, hv]; exact hs', ?_, ?_, by rw [put_defers]; exact h.dfs⟩
        · have e0 := h.ext
          refine ⟨e0.os, e0.tape, e0.output, ?_, ?_, ?_, ?_, ?_, ec.bar.trans e0.bar, ?_, e0.len, e0.dead⟩
          · have := e0.size; change w0.heap.size ≤ (w.heap.push o').size; rw [Array.size_push]; omega
          · intro c hc' ho'
            exact (ec.keep c (Nat.lt_of_lt_of_le hc' e0.size) fun ow => ho' (e0.mine c hc' ow)).trans (e0.keep c hc' ho')
          · intro c cs ty fr hcs
            obtain ⟨cs1, fr1, g1, g2⟩ := e0.shape c cs ty fr hcs
            obtain ⟨cs2, fr2, g3, g4⟩ := ec.shape c cs1 ty fr1 g1
            exact ⟨cs2, fr2, g3, g4.trans g2⟩
          · intro b y hby; exact ec.ext b y (e0.ext b y hby)
          · intro c hc' ow; exact e0.mine c hc' (ec.mine c (Nat.lt_of_lt_of_le hc' e0.size) ow)
          · intro b hb' hnb
            have := e0.ghost b hb' hnb
            exact ⟨by rw [upd_other _ _ (by omega)]; exact this.1, this.2⟩
        · intro k o ho hak hk hD hwk
          have e' : k ≠ j := by rintro rfl; simp [also] at hD
          rw [also_other e'] at hD
          have hgk := h.gh k o ho hak hk hD hwk
          refine ⟨?_, hgk.2⟩
          rw [upd_other _ _ ?_]
          · exact hgk.1
          · intro hEq
            obtain ⟨bk, hbk⟩ := alloc_app hak (t.run k o ho hwk)
            obtain ⟨bj, hbj⟩ := alloc_app ha (t.run j oj hj hw)
            rcases Nat.lt_or_gt_of_ne e' with hlt' | hlt'
            · have : (HH (k + 1)).length ≤ (HH j).length := t.mono hc (by omega) (by omega)
              rw [hbk] at this; simp at this; omega
            · have : (HH (j + 1)).length ≤ (HH k).length := t.mono hc (by omega) (by have := h.le; omega)
              rw [hbj] at this; simp at this; omega
    · -- loud
      have e := hloud hl
      subst e
      rw [← run_congr huse2] at hrun
      refine step_op h.sr hcl mm hrun fun x w' ρ' e hs' => ?_
      rw [← m1] at hs'
      refine hK _ w' ρ' (j + 1) ⟨hjl, hlm hl, hal (j + 1) (by omega), hdn, by rw [hput, ← m1]; exact hs', h.ext.trans e, ?_, by rw [put_defers]; exact h.dfs⟩
      intro k o ho hak hk hD hwk
      have e' : k ≠ j := by rintro rfl; simp [also] at hD
      rw [also_other e'] at hD
      have hg := h.gh k o ho hak (by omega) hD hwk
      have he := e.ghost _ (hlt k o ho hak (by omega) hwk) hg.1
      exact ⟨he.1, he.2.trans hg.2⟩
end
end Go.AM

/- A region whose order is open: every order. -/
namespace Go.AM
set_option linter.unusedVariables false
set_option linter.unusedSimpArgs false

section
variable (L : Link) (E : Env)
def mDraw (ps : Array Oper) (ops : List RO) : Bool :=
  decide (ops.length ≤ ps.size) && (List.range ps.size).all (fun i => ops.any fun o => o.ix == i) &&
  (ops.zipIdx.all fun p => ops.zipIdx.all fun q => p.2 == q.2 || p.1.ix != q.1.ix) &&
  ops.all fun o => match ps[o.ix]? with
    | some p => mRO L E ps o p &&
      (o.after.all fun i => match ops[i]? with | some oi => p.after.any fun e => Region.binds .any e && e.on == oi.ix | none => false) &&
      (p.after.all fun e => !Region.binds .any e || o.after.any fun i => match ops[i]? with | some oi => oi.ix == e.on | none => false)
    | none => false
/-- 'Z': what is done already, so that edges out of it need not be the program's. -/
structure MDraw (Z : Nat → Prop) (ps : Array Oper) (ops : List RO) : Prop where
  size : ops.length ≤ ps.size
  onto : ∀ i, i < ps.size → ∃ (k : Nat) (o : RO), ops[k]? = some o ∧ o.ix = i
  inj : ∀ (i j : Nat) (oi oj : RO), ops[i]? = some oi → ops[j]? = some oj → i ≠ j → oi.ix ≠ oj.ix
  mat : ∀ (k : Nat) (o : RO), ops[k]? = some o → ∃ p, ps[o.ix]? = some p ∧ mRO L E ps o p = true ∧
    (∀ i ∈ o.after, Z i ∨ ∃ oi, ops[i]? = some oi ∧ ∃ e ∈ p.after, Region.binds .any e = true ∧ e.on = oi.ix) ∧
    (∀ e ∈ p.after, Region.binds .any e = true → ∃ i ∈ o.after, ∃ oi, ops[i]? = some oi ∧ oi.ix = e.on)
theorem mDraw_ok {ps : Array Oper} {ops : List RO} (h : mDraw L E ps ops = true) : MDraw L E (fun _ => False) ps ops := by
  unfold mDraw at h
  simp only [Bool.and_eq_true, List.all_eq_true] at h
  obtain ⟨⟨⟨h0, h1⟩, h2⟩, h3⟩ := h
  refine ⟨by simpa using h0, fun i hi => ?_, fun i j oi oj hi hj hne => ?_, fun k o ho => ?_⟩
  · have := h1 i (by simpa using hi)
    simp only [List.any_eq_true, beq_iff_eq] at this
    obtain ⟨o, ho, e⟩ := this
    obtain ⟨k, hk⟩ := List.mem_iff_getElem?.1 ho
    exact ⟨k, o, hk, e⟩
  · have := h2 _ (mem_zipIdx_of hi) _ (mem_zipIdx_of hj)
    simp only [Bool.or_eq_true, beq_iff_eq, bne_iff_ne, ne_eq] at this
    exact this.resolve_left hne
  · have := h3 o (List.mem_of_getElem? ho)
    split at this
    case h_2 => cases this
    rename_i p hp
    simp only [Bool.and_eq_true] at this
    obtain ⟨⟨g1, g2⟩, g3⟩ := this
    refine ⟨p, hp, g1, fun i hi => ?_, fun e he hb => ?_⟩
    · have := List.all_eq_true.1 g2 i hi
      split at this
      case h_2 => cases this
      rename_i oi hoi
      obtain ⟨e, he, hb⟩ := Array.any_eq_true'.1 this
      simp only [Bool.and_eq_true, beq_iff_eq] at hb
      exact .inr ⟨oi, hoi, e, he, hb⟩
    · have := Array.all_eq_true_iff_forall_mem.1 g3 e he
      rw [hb] at this
      simp only [Bool.not_true, Bool.false_or, List.any_eq_true] at this
      obtain ⟨i, hi, hm⟩ := this
      split at hm
      case h_2 => cases hm
      rename_i oi hoi
      exact ⟨i, hi, oi, hoi, by simpa using hm⟩
end

def und (D : Nat → Bool) : Nat → Nat
  | 0 => 0
  | n + 1 => und D n + (if D n = true then 0 else 1)
theorem und_zero {D : Nat → Bool} : ∀ {n : Nat}, und D n = 0 → ∀ k, k < n → D k = true
  | n + 1, h, k, hk => by
    unfold und at h
    by_cases e : k = n
    · subst e
      cases hD : D k
      · rw [hD] at h; simp at h
      · rfl
    · exact und_zero (n := n) (by omega) k (by omega)
theorem und_also {D : Nat → Bool} {j : Nat} (hn : D j = false) : ∀ (n : Nat), (n ≤ j → und (also D j) n = und D n) ∧ (j < n → und (also D j) n + 1 = und D n)
  | 0 => ⟨fun _ => rfl, fun h => by omega⟩
  | n + 1 => by
    obtain ⟨h1, h2⟩ := und_also hn n
    constructor
    · intro h
      simp only [und, h1 (by omega), also_other (show n ≠ j by omega)]
    · intro h
      by_cases e : n = j
      · subst e
        simp [und, h1 (Nat.le_refl _), hn, also]
      · simp only [und, also_other e]
        have := h2 (by omega)
        omega

section
variable {L : Link} {E : Env} {cl : Nat → List AV → Heap → Option (AV × Heap)} {ops : List RO} {S : Nat → List AV} {HH : Nat → Heap} {V : Nat → AV} {tr : List Tr} {w0 w : World} {ρ0 ρ : Map} {H0 : Heap} {ds : List Deferred} {D : Nat → Bool} {m : Nat} {a : Act}
variable {Z : Nat → Prop}
def Listed (ops : List RO) (D : Nat → Bool) (listed : Array Bool) : Prop := ∀ (k : Nat) (o : RO), ops[k]? = some o → listed[o.ix]? = some (D k)
theorem Listed.getD {l : Array Bool} (h : Listed ops D l) {k : Nat} {o : RO} (ho : ops[k]? = some o) (d : Bool) : l.getD o.ix d = D k := by
  rw [Array.getD_eq_getD_getElem?, h k o ho]; rfl
theorem Listed.also {l : Array Bool} {ps : Array Oper} (md : MDraw L E Z ps ops) (h : Listed ops D l) {j : Nat} {oj : RO} (hj : ops[j]? = some oj) : Listed ops (also D j) (l.setIfInBounds oj.ix true) := by
  intro k o ho
  by_cases e : k = j
  · subst e
    rw [hj] at ho; injection ho with ho; subst ho
    have := h k oj hj
    have hlt : oj.ix < l.size := (Array.getElem?_eq_some_iff.1 this).1
    simp [AM.also, hlt]
  · have := md.inj k j o oj ho hj e
    rw [Array.getElem?_setIfInBounds_ne (Ne.symm this), h k o ho, also_other e]

theorem ripe_of_ready {l : Array Bool} {ps : Array Oper} (md : MDraw L E Z ps ops) (hZ : ∀ i, Z i → D i = true) (h : Listed ops D l) {k : Nat} {o : RO} (ho : ops[k]? = some o) : o.ix ∈ Region.ready .any ps l ↔ D k = false ∧ Ripe ops D k := by
  obtain ⟨p, hp, _, g2, g3⟩ := md.mat k o ho
  rw [mem_ready, h.getD ho]
  constructor
  · rintro ⟨h1, p', hp', h2⟩
    rw [hp] at hp'; injection hp' with hp'; subst hp'
    refine ⟨h1, fun o' ho' i hi => ?_⟩
    rw [ho] at ho'; injection ho' with ho'; subst ho'
    rcases g2 i hi with hz | ⟨oi, hoi, e, he, hb, hon⟩
    · exact hZ i hz
    have := h2 e he hb
    rw [hon, h.getD hoi] at this
    exact this
  · rintro ⟨h1, h2⟩
    refine ⟨h1, p, hp, fun e he hb => ?_⟩
    obtain ⟨i, hi, oi, hoi, hon⟩ := g3 e he hb
    rw [← hon, h.getD hoi]
    exact h2 o ho i hi
theorem ready_of_ripe {l : Array Bool} {ps : Array Oper} (md : MDraw L E Z ps ops) (h : Listed ops D l) {k : Nat} {o : RO} (ho : ops[k]? = some o) (h1 : D k = false) (h2 : Ripe ops D k) : o.ix ∈ Region.ready .any ps l := by
  obtain ⟨p, hp, _, g2, g3⟩ := md.mat k o ho
  rw [mem_ready, h.getD ho]
  refine ⟨h1, p, hp, fun e he hb => ?_⟩
  obtain ⟨i, hi, oi, hoi, hon⟩ := g3 e he hb
  rw [← hon, h.getD hoi]
  exact h2 o ho i hi
theorem none_ready {l : Array Bool} {ps : Array Oper} (md : MDraw L E Z ps ops) (ok : DrawOk ops) (h : Listed ops D l) (hr : Region.ready .any ps l = []) : ∀ k, k < ops.length → D k = true := by
  intro k
  induction k using Nat.strongRecOn with
  | _ k ih =>
    intro hk
    have ho : ops[k]? = some ops[k] := List.getElem?_eq_getElem hk
    cases hD : D k
    · have : ops[k].ix ∈ Region.ready .any ps l := ready_of_ripe md h ho hD fun o ho' i hi => by
        rw [ho] at ho'; injection ho' with ho'; subst ho'
        have := ok.back k _ ho i hi
        exact ih i this (by omega)
      rw [hr] at this; cases this
    · rfl

theorem Inv.end (t : Trace E cl ops S HH V tr) (hc : ∀ x ∈ tr, x.before.length ≤ x.after.length) (h : Inv L E ops S HH V w0 ρ0 H0 ds D m w ρ a) (hall : ∀ k, k < ops.length → D k = true) :
    SR L E w ρ (HH ops.length) (S ops.length) a ∧ Ext w0 ρ0 H0 w ρ (HH ops.length) ∧ a.defers = ds := by
  obtain ⟨m, h, hm⟩ := h.stable t hc _ _ rfl
  have : m = ops.length := by
    rcases hm with hm | ⟨o, ho, hl⟩
    · exact hm
    · have := (h.lo m o ho hl).1 (hall m (List.getElem?_eq_some_iff.1 ho).1)
      omega
  subst this
  have hs := h.sr
  rw [mask_all t hall _ (Nat.le_refl _)] at hs
  exact ⟨hs, h.ext, h.dfs⟩

theorem any_sound {ps : Array Oper} {Q : Exit → Act → World → Prop} (hcl : CallS L E cl) (md : MDraw L E Z ps ops) (t : Trace E cl ops S HH V tr) (ok : DrawOk ops) (hc : ∀ x ∈ tr, x.before.length ≤ x.after.length) (hp : (drawPairs ops).all (pairOk tr) = true)
    (hge : H0.length ≤ (HH 0).length) (hQ : ∀ a' w' ρ', Ext w0 ρ0 H0 w' ρ' (HH ops.length) → SR L E w' ρ' (HH ops.length) (S ops.length) a' → a'.defers = ds → Q .normal a' w') :
    ∀ (fuel : Nat) (D : Nat → Bool) (m : Nat) (w : World) (ρ : Map) (a : Act) (l : Array Bool), (∀ i, Z i → D i = true) → Inv L E ops S HH V w0 ρ0 H0 ds D m w ρ a → Listed ops D l → und D ops.length ≤ fuel → wpAny L.P .any ps Q fuel l a w := by
  intro fuel
  induction fuel with
  | zero =>
    intro D m w ρ a l hZ h hl hu
    have hall := und_zero (show und D ops.length = 0 by omega)
    obtain ⟨h1, h2, h3⟩ := h.end t hc hall
    refine ⟨?_, hQ a w ρ h2 h1 h3⟩
    rw [List.eq_nil_iff_forall_not_mem]
    intro i hi
    obtain ⟨hi1, p, hp, _⟩ := mem_ready.1 hi
    obtain ⟨k, o, ho, rfl⟩ := md.onto i (Array.getElem?_eq_some_iff.1 hp).1
    have := ((ripe_of_ready md hZ hl ho).1 hi).1
    rw [hall k (List.getElem?_eq_some_iff.1 ho).1] at this
    cases this
  | succ fuel ih =>
    intro D m w ρ a l hZ h hl hu
    refine ⟨fun hr => ?_, fun i hi => ?_⟩
    · obtain ⟨h1, h2, h3⟩ := h.end t hc (none_ready md ok hl hr)
      exact hQ a w ρ h2 h1 h3
    · obtain ⟨hi1, p, hp', _⟩ := mem_ready.1 hi
      obtain ⟨k, o, ho, rfl⟩ := md.onto i (Array.getElem?_eq_some_iff.1 hp').1
      obtain ⟨hD, hrp⟩ := (ripe_of_ready md hZ hl ho).1 hi
      obtain ⟨m, h, hm⟩ := h.stable t hc _ _ rfl
      obtain ⟨p', hp1, hp2, _⟩ := md.mat k o ho
      refine h.step hcl t ok hc hp hm hge ho hrp hD hp1 hp2 fun a' w' ρ' m' h' => ih _ m' w' ρ' a' _ (fun i hi => by simp [AM.also, hZ i hi]) h' (hl.also md ho) ?_
      have := (und_also hD ops.length).2 (List.getElem?_eq_some_iff.1 ho).1
      omega

theorem und_le (D : Nat → Bool) : ∀ n, und D n ≤ n
  | 0 => Nat.le_refl _
  | n + 1 => by have := und_le D n; unfold und; split <;> omega
theorem SR.same {s : List AV} {H : Heap} {w' : World} (h : SR L E w ρ H s a) (hos : w'.os = w.os) (ht : w'.tape = w.tape) (ho : w'.output = w.output) (hh : w'.heap = w.heap) : SR L E w' ρ H s a := by
  have e := ext_same (ρ := ρ) (H := H) hos ht ho hh
  exact ⟨h.hr.same hos ht ho hh, h.vs.ext e, fun g cs hg => (h.gl g cs hg).ext e⟩

theorem draw_sound {id : Nat} {ps : Array Oper} {Q : Exit → Act → World → Prop} (hcl : CallS L E cl) (hmix : L.P.follows .mixedOrders = true) {s s' : List AV} {H H' : Heap} (hs : SR L E w ρ H s a) (m : mDraw L E ps ops = true) (hok : drawOk ops = true)
    (h : runTr E cl ops s H = some (s', H', tr)) (hc : tr.all (fun t => decide (t.before.length ≤ t.after.length)) = true) (hp : (drawPairs ops).all (pairOk tr) = true)
    (hQ : ∀ a' w' ρ', Ext w ρ H w' ρ' H' → SR L E w' ρ' H' s' a' → a'.defers = a.defers → Q .normal a' w') : (Code.region id ps true).wp L.P Q a w := by
  obtain ⟨S, HH, V, e1, e2, e3, e4, t⟩ := runTr_trace ops s H h
  subst e1; subst e2; subst e3; subst e4
  have md := mDraw_ok L E m
  have ok := drawOk_ok hok
  have hc' : ∀ x ∈ tr, x.before.length ≤ x.after.length := fun x hx => by have := List.all_eq_true.1 hc x hx; simpa using this
  have ew : Ext w ρ (HH 0) { w with drawn := w.drawn + 1 } ρ (HH 0) := ext_same rfl rfl rfl rfl
  refine wp_region_any hmix ?_
  refine any_sound (w0 := w) (ρ0 := ρ) (H0 := HH 0) (ds := a.defers) hcl md t ok hc' hp (Nat.le_refl _) hQ ps.size (fun _ => false) 0 _ ρ a _ (fun _ h => h.elim) ⟨Nat.zero_le _, ?_, fun _ _ _ _ _ => rfl, ?_, ?_, ew, ?_, rfl⟩ ?_ ?_
  · intro k o _ _; simp
  · intro j o _ hj; cases hj
  · rw [mask_none]; exact hs.same rfl rfl rfl rfl
  · intro k o _ _ hk; omega
  · intro k o ho
    obtain ⟨p, hp, _⟩ := md.mat k o ho
    have := (Array.getElem?_eq_some_iff.1 hp).1
    simp [this]
  · exact Nat.le_trans (und_le _ _) md.size
end
end Go.AM

/- A region whose order is open, its two last operations not in line: each of the two orders comes to the same. -/
namespace Go.AM
set_option linter.unusedVariables false
set_option linter.unusedSimpArgs false

section
variable {L : Link} {E : Env} {cl : Nat → List AV → Heap → Option (AV × Heap)}
theorem MDraw.map {Z : Nat → Prop} {ps : Array Oper} {ops ops' : List RO} {π : Nat → Nat} (hπ : ∀ i, π (π i) = i) (hlen : ops'.length = ops.length)
    (h : ∀ k o', ops'[k]? = some o' → ∃ o, ops[π k]? = some o ∧ o'.dst = o.dst ∧ o'.op = o.op ∧ o'.guard = o.guard ∧ o'.ix = o.ix ∧ (∀ i ∈ o'.after, Z i ∨ π i ∈ o.after) ∧ ∀ i ∈ o.after, π i ∈ o'.after)
    (h' : ∀ k o, ops[k]? = some o → ∃ o', ops'[π k]? = some o' ∧ o'.ix = o.ix) (md : MDraw L E (fun _ => False) ps ops) : MDraw L E Z ps ops' where
  size := by rw [hlen]; exact md.size
  onto i hi := by
    obtain ⟨k, o, ho, rfl⟩ := md.onto i hi
    obtain ⟨o', ho', e⟩ := h' k o ho
    exact ⟨_, o', ho', e⟩
  inj i j oi oj hi hj hne := by
    obtain ⟨pi, hpi, _, _, _, ei, _⟩ := h i oi hi
    obtain ⟨pj, hpj, _, _, _, ej, _⟩ := h j oj hj
    rw [ei, ej]
    refine md.inj _ _ pi pj hpi hpj fun e => hne ?_
    have := congrArg π e
    rwa [hπ, hπ] at this
  mat k o' ho' := by
    obtain ⟨o, ho, e1, e2, e3, e4, e5, e6⟩ := h k o' ho'
    obtain ⟨p, hp, hm, g2, g3⟩ := md.mat _ o ho
    refine ⟨p, by rw [e4]; exact hp, by simpa only [mRO, e1, e2, e3] using hm, fun i hi => ?_, fun e he hb => ?_⟩
    · rcases e5 i hi with hz | hz
      · exact .inl hz
      · rcases g2 _ hz with hf | ⟨oi, hoi, e, he, hb, hon⟩
        · exact hf.elim
        · obtain ⟨o2, ho2, ex⟩ := h' _ oi hoi
          rw [hπ] at ho2
          exact .inr ⟨o2, ho2, e, he, hb, by rw [ex]; exact hon⟩
    · obtain ⟨i, hi, oi, hoi, hon⟩ := g3 e he hb
      obtain ⟨o2, ho2, ex⟩ := h' _ oi hoi
      exact ⟨π i, e6 i hi, o2, ho2, by rw [ex]; exact hon⟩

theorem at_pre {pre : List RO} {a b : RO} {k : Nat} (h : k < pre.length) : (pre ++ [a, b])[k]? = pre[k]? := List.getElem?_append_left h
theorem at_x {pre : List RO} {a b : RO} : (pre ++ [a, b])[pre.length]? = some a := by simp
theorem at_y {pre : List RO} {a b : RO} : (pre ++ [a, b])[pre.length + 1]? = some b := by simp
theorem at_cases {pre : List RO} {a b o : RO} {k : Nat} (h : (pre ++ [a, b])[k]? = some o) : (k < pre.length ∧ pre[k]? = some o) ∨ (k = pre.length ∧ o = a) ∨ (k = pre.length + 1 ∧ o = b) := by
  have hk : k < (pre ++ [a, b]).length := (List.getElem?_eq_some_iff.1 h).1
  simp at hk
  rcases Nat.lt_or_ge k pre.length with h1 | h1
  · rw [at_pre h1] at h; exact .inl ⟨h1, h⟩
  · rcases Nat.eq_or_lt_of_le h1 with rfl | h2
    · rw [at_x] at h; injection h with h; exact .inr (.inl ⟨rfl, h.symm⟩)
    · have : k = pre.length + 1 := by omega
      subst this
      rw [at_y] at h; injection h with h; exact .inr (.inr ⟨rfl, h.symm⟩)

section
variable {pre : List RO} {x y : RO}
theorem mdA {ps : Array Oper} (md : MDraw L E (fun _ => False) ps (pre ++ [x, y])) : MDraw L E (fun i => i = pre.length) ps (r2A pre x y) := by
  refine MDraw.map (π := id) (fun _ => rfl) (by simp [r2A]) ?_ ?_ md
  · intro k o' ho'
    rcases at_cases ho' with ⟨h1, h2⟩ | ⟨rfl, rfl⟩ | ⟨rfl, rfl⟩
    · exact ⟨o', by rw [id, at_pre h1]; exact h2, rfl, rfl, rfl, rfl, fun i hi => .inr hi, fun i hi => hi⟩
    · exact ⟨o', by rw [id, at_x], rfl, rfl, rfl, rfl, fun i hi => .inr hi, fun i hi => hi⟩
    · refine ⟨y, by rw [id, at_y], rfl, rfl, rfl, rfl, fun i hi => ?_, fun i hi => by simp; exact .inr hi⟩
      rcases List.mem_cons.1 hi with h | h
      · exact .inl h
      · exact .inr h
  · intro k o ho
    rcases at_cases ho with ⟨h1, h2⟩ | ⟨rfl, rfl⟩ | ⟨rfl, rfl⟩
    · exact ⟨o, by rw [id, r2A, at_pre h1]; exact h2, rfl⟩
    · exact ⟨o, by rw [id, r2A, at_x], rfl⟩
    · exact ⟨{ o with after := pre.length :: o.after }, by rw [id, r2A, at_y], rfl⟩
def swp (n i : Nat) : Nat := if i = n then n + 1 else if i = n + 1 then n else i
theorem swp_swp (n i : Nat) : swp n (swp n i) = i := by
  unfold swp
  by_cases h1 : i = n
  · simp [h1]
  · by_cases h2 : i = n + 1
    · simp [h2]
    · simp [h1, h2]
theorem swp_lt {n i : Nat} (h : i < n) : swp n i = i := by unfold swp; split <;> (try split) <;> omega
theorem mdB {ps : Array Oper} (okA : DrawOk (r2A pre x y)) (okB : DrawOk (r2B pre x y)) (md : MDraw L E (fun _ => False) ps (pre ++ [x, y])) : MDraw L E (fun i => i = pre.length) ps (r2B pre x y) := by
  have bx : ∀ i ∈ x.after, i < pre.length := okA.back pre.length x (by rw [r2A, at_x])
  have by_ : ∀ i ∈ y.after, i < pre.length := okB.back pre.length y (by rw [r2B, at_x])
  have bp : ∀ (k : Nat) (o : RO), pre[k]? = some o → ∀ i ∈ o.after, i < pre.length := fun k o ho i hi => by
    have hk := (List.getElem?_eq_some_iff.1 ho).1
    have := okA.back k o (by rw [r2A, at_pre hk]; exact ho) i hi
    omega
  refine MDraw.map (π := swp pre.length) (swp_swp _) (by simp [r2B]) ?_ ?_ md
  · intro k o' ho'
    rcases at_cases ho' with ⟨h1, h2⟩ | ⟨rfl, rfl⟩ | ⟨rfl, rfl⟩
    · refine ⟨o', by rw [swp_lt h1, at_pre h1]; exact h2, rfl, rfl, rfl, rfl, fun i hi => .inr ?_, fun i hi => ?_⟩
      · rw [swp_lt (bp _ _ h2 i hi)]; exact hi
      · rw [swp_lt (bp _ _ h2 i hi)]; exact hi
    · refine ⟨o', by simp [swp], rfl, rfl, rfl, rfl, fun i hi => .inr ?_, fun i hi => ?_⟩
      · rw [swp_lt (by_ i hi)]; exact hi
      · rw [swp_lt (by_ i hi)]; exact hi
    · refine ⟨x, by simp [swp], rfl, rfl, rfl, rfl, fun i hi => ?_, fun i hi => ?_⟩
      · rcases List.mem_cons.1 hi with h | h
        · exact .inl h
        · exact .inr (by rw [swp_lt (bx i h)]; exact h)
      · rw [swp_lt (bx i hi)]; simp; exact .inr hi
  · intro k o ho
    rcases at_cases ho with ⟨h1, h2⟩ | ⟨rfl, rfl⟩ | ⟨rfl, rfl⟩
    · exact ⟨o, by rw [swp_lt h1, r2B, at_pre h1]; exact h2, rfl⟩
    · exact ⟨{ o with after := pre.length :: o.after }, by rw [r2B]; simp [swp], rfl⟩
    · exact ⟨o, by rw [r2B]; simp [swp], rfl⟩

variable {SA SB : Nat → List AV} {HA HB : Nat → Heap} {VA VB : Nat → AV} {trA trB : List Tr}
/-- As far as the two orders are alike, so are their runs. -/
theorem alike (tA : Trace E cl (r2A pre x y) SA HA VA trA) (tB : Trace E cl (r2B pre x y) SB HB VB trB) (e1 : SA 0 = SB 0) (e2 : HA 0 = HB 0) :
    ∀ k, k ≤ pre.length → SA k = SB k ∧ HA k = HB k ∧ ∀ i, i < k → VA i = VB i
  | 0, _ => ⟨e1, e2, by simp⟩
  | k + 1, hk => by
    obtain ⟨h1, h2, h3⟩ := alike tA tB e1 e2 k (by omega)
    have hp : pre[k]? = some pre[k] := List.getElem?_eq_getElem (by omega)
    have hA : (r2A pre x y)[k]? = some pre[k] := by rw [r2A, at_pre (by omega)]; exact hp
    have hB : (r2B pre x y)[k]? = some pre[k] := by rw [r2B, at_pre (by omega)]; exact hp
    have hv : VA k = VB k ∧ HA (k + 1) = HB (k + 1) := by
      cases hw : pre[k].wanted (SA k)
      · obtain ⟨a1, a2⟩ := tA.skip k _ hA hw
        obtain ⟨b1, b2⟩ := tB.skip k _ hB (by rw [← h1]; exact hw)
        exact ⟨a1.trans b1.symm, by rw [a2, b2, h2]⟩
      · have a := tA.run k _ hA hw
        have b := tB.run k _ hB (by rw [← h1]; exact hw)
        rw [h1, h2] at a
        rw [a] at b; injection b with b; injection b with b1 b2
        exact ⟨b1, b2⟩
    refine ⟨by rw [tA.slot k _ hA, tB.slot k _ hB, h1, hv.1], hv.2, fun i hi => ?_⟩
    rcases Nat.lt_or_ge i k with h | h
    · exact h3 i h
    · have : i = k := by omega
      subst this; exact hv.1

theorem Inv.toB {w0 w : World} {ρ0 ρ : Map} {H0 : Heap} {ds : List Deferred} {D : Nat → Bool} {m : Nat} {a : Act} (hx : x.op.loud = true) (tA : Trace E cl (r2A pre x y) SA HA VA trA) (tB : Trace E cl (r2B pre x y) SB HB VB trB) (e1 : SA 0 = SB 0) (e2 : HA 0 = HB 0)
    (h : Inv L E (r2A pre x y) SA HA VA w0 ρ0 H0 ds D m w ρ a) (h1 : D pre.length = false) (h2 : D (pre.length + 1) = false) : Inv L E (r2B pre x y) SB HB VB w0 ρ0 H0 ds D m w ρ a := by
  have hm : m ≤ pre.length := by
    have := h.lo pre.length x (by rw [r2A, at_x]) hx
    rw [h1] at this
    exact Nat.le_of_not_lt fun hlt => by simpa using this.2 hlt
  have al := alike tA tB e1 e2
  obtain ⟨_, hH, hV⟩ := al m hm
  have cut : ∀ (k : Nat) (o : RO), (r2B pre x y)[k]? = some o → D k = true ∨ k < pre.length → k < pre.length ∧ (r2A pre x y)[k]? = some o := by
    intro k o ho hk
    rcases at_cases ho with ⟨g1, g2⟩ | ⟨rfl, rfl⟩ | ⟨rfl, rfl⟩
    · exact ⟨g1, by rw [r2A, at_pre g1]; exact g2⟩
    · rcases hk with hk | hk
      · rw [h1] at hk; cases hk
      · omega
    · rcases hk with hk | hk
      · rw [h2] at hk; cases hk
      · omega
  have hmask : ∀ k, k ≤ pre.length + 2 → maskN (r2A pre x y) (SA 0) VA D k = maskN (r2B pre x y) (SB 0) VB D k := by
    intro k
    induction k with
    | zero => intro _; exact e1
    | succ k ih =>
      intro hk
      simp only [maskN, ih (by omega)]
      split
      · rename_i hD
        have hkl : k < pre.length := by
          rcases Nat.lt_or_ge k pre.length with g | g
          · exact g
          · have : k = pre.length ∨ k = pre.length + 1 := by omega
            rcases this with rfl | rfl
            · rw [h1] at hD; cases hD
            · rw [h2] at hD; cases hD
        rw [r2A, r2B, at_pre hkl, at_pre hkl, (al (k + 1) hkl).2.2 k (by omega)]
      · rfl
  have lA : (r2A pre x y).length = pre.length + 2 := by simp [r2A]
  have lB : (r2B pre x y).length = pre.length + 2 := by simp [r2B]
  refine ⟨by omega, ?_, ?_, ?_, ?_, ?_, ?_, h.dfs⟩
  · intro k o ho hl
    rcases Nat.lt_or_ge k pre.length with g | g
    · exact h.lo k o (cut k o ho (.inr g)).2 hl
    · have : D k = false := by
        have hk := (List.getElem?_eq_some_iff.1 ho).1
        have : k = pre.length ∨ k = pre.length + 1 := by omega
        rcases this with rfl | rfl
        · exact h1
        · exact h2
      rw [this]
      simp; omega
  · intro k o ho ha hk
    cases hD : D k
    · rfl
    · have := cut k o ho (.inl hD)
      rw [h.al k o this.2 ha hk] at hD; cases hD
  · intro j o ho hj i hi
    exact h.down j o (cut j o ho (.inl hj)).2 hj i hi
  · have := h.sr
    rw [lA, hmask _ (Nat.le_refl _), hH] at this
    rw [lB]; exact this
  · rw [← hH]; exact h.ext
  · intro k o ho ha hk hD hw
    obtain ⟨g1, g2⟩ := cut k o ho (.inr (by omega))
    have q1 := al k (by omega)
    have q2 := al (k + 1) (by omega)
    have := h.gh k o g2 ha hk hD (by rw [q1.1]; exact hw)
    rw [q1.2.1, q2.2.1, hH] at this
    exact this

theorem draw2_sound {w : World} {ρ : Map} {a : Act} {id : Nat} {ps : Array Oper} {Q : Exit → Act → World → Prop} (hcl : CallS L E cl) (hmix : L.P.follows .mixedOrders = true) {s s' s2 : List AV} {H H' : Heap} (hs : SR L E w ρ H s a) (m : mDraw L E ps (pre ++ [x, y]) = true) (hok : r2Ok pre x y = true)
    (hA : runTr E cl (r2A pre x y) s H = some (s', H', trA)) (hB : runTr E cl (r2B pre x y) s H = some (s2, H', trB))
    (cA : trA.all (fun t => decide (t.before.length ≤ t.after.length)) = true) (pA : (drawPairs (r2A pre x y)).all (pairOk trA) = true)
    (cB : trB.all (fun t => decide (t.before.length ≤ t.after.length)) = true) (pB : (drawPairs (r2B pre x y)).all (pairOk trB) = true)
    (hQ : ∀ a' w' ρ', Ext w ρ H w' ρ' H' → SR L E w' ρ' H' s' a' → a'.defers = a.defers → Q .normal a' w') : (Code.region id ps true).wp L.P Q a w := by
  simp only [r2Ok, Bool.and_eq_true] at hok
  obtain ⟨⟨⟨⟨⟨okA, okB⟩, hx⟩, hy⟩, dx⟩, dy⟩ := hok
  replace okA := drawOk_ok okA
  replace okB := drawOk_ok okB
  obtain ⟨SA, HA, VA, a1, a2, a3, a4, tA⟩ := runTr_trace _ s H hA
  obtain ⟨SB, HB, VB, b1, b2, b3, b4, tB⟩ := runTr_trace _ s H hB
  have lA : (r2A pre x y).length = pre.length + 2 := by simp [r2A]
  have lB : (r2B pre x y).length = pre.length + 2 := by simp [r2B]
  have al := alike tA tB (a1.trans b1.symm) (a2.trans b2.symm)
  have dx' : x.dst = none := by simpa using dx
  have dy' : y.dst = none := by simpa using dy
  have eS : SB (pre.length + 2) = SA (pre.length + 2) := by
    have hA0 := tA.slot pre.length x (by rw [r2A, at_x])
    have hA1 := tA.slot (pre.length + 1) _ (by rw [r2A, at_y])
    have hB0 := tB.slot pre.length y (by rw [r2B, at_x])
    have hB1 := tB.slot (pre.length + 1) _ (by rw [r2B, at_y])
    simp only [dx', dy', putA] at hA0 hA1 hB0 hB1
    rw [hA1, hA0, hB1, hB0, (al pre.length (Nat.le_refl _)).1]
  rw [lA] at a3 a4
  rw [lB] at b3 b4
  subst a1
  have eSB0 : SB 0 = SA 0 := b1
  subst a2
  have eHB0 : HB 0 = HA 0 := b2
  subst a3
  subst a4
  have md := mDraw_ok L E m
  have mA := mdA md
  have mB := mdB okA okB md
  have cA' : ∀ t ∈ trA, t.before.length ≤ t.after.length := fun t ht => by have := List.all_eq_true.1 cA t ht; simpa using this
  have cB' : ∀ t ∈ trB, t.before.length ≤ t.after.length := fun t ht => by have := List.all_eq_true.1 cB t ht; simpa using this
  have ew : Ext w ρ (HA 0) { w with drawn := w.drawn + 1 } ρ (HA 0) := ext_same rfl rfl rfl rfl
  have hb0 : ∀ i ∈ x.after, i < pre.length := okA.back pre.length x (by rw [r2A, at_x])
  have hb1 : ∀ i ∈ y.after, i < pre.length := okB.back pre.length y (by rw [r2B, at_x])
  have phase : ∀ (fuel : Nat) (D : Nat → Bool) (m : Nat) (w' : World) (ρ' : Map) (a' : Act) (l : Array Bool), D pre.length = false → D (pre.length + 1) = false → Inv L E (r2A pre x y) SA HA VA w ρ (HA 0) a.defers D m w' ρ' a' → Listed (pre ++ [x, y]) D l → und D (pre.length + 2) ≤ fuel → wpAny L.P .any ps Q fuel l a' w' := by
    intro fuel
    induction fuel with
    | zero =>
      intro D m w' ρ' a' l h1 _ _ _ hu
      have := und_zero (show und D (pre.length + 2) = 0 by omega) pre.length (by omega)
      rw [h1] at this; cases this
    | succ fuel ih =>
      intro D m w' ρ' a' l h1 h2 h hl hu
      have hlA : Listed (r2A pre x y) D l := by
        intro k o ho
        rcases at_cases ho with ⟨g1, g2⟩ | ⟨rfl, rfl⟩ | ⟨rfl, rfl⟩
        · exact hl k o (by rw [at_pre g1]; exact g2)
        · exact hl _ _ at_x
        · exact hl _ y at_y
      have hlB : Listed (r2B pre x y) D l := by
        intro k o ho
        rcases at_cases ho with ⟨g1, g2⟩ | ⟨rfl, rfl⟩ | ⟨rfl, rfl⟩
        · exact hl k o (by rw [at_pre g1]; exact g2)
        · rw [h1, ← h2]; exact hl _ _ at_y
        · rw [h2, ← h1]; exact hl _ x at_x
      refine ⟨fun hr => ?_, fun i hi => ?_⟩
      · have := none_ready mA okA hlA hr pre.length (by omega)
        rw [h1] at this; cases this
      · obtain ⟨hi1, p, hp', _⟩ := mem_ready.1 hi
        obtain ⟨k, o, ho, rfl⟩ := md.onto i (Array.getElem?_eq_some_iff.1 hp').1
        obtain ⟨hD, hrp⟩ := (ripe_of_ready md (fun _ h => h.elim) hl ho).1 hi
        obtain ⟨p', hp1, hp2, _⟩ := md.mat k o ho
        rcases at_cases ho with ⟨g1, g2⟩ | ⟨rfl, rfl⟩ | ⟨rfl, rfl⟩
        · obtain ⟨m, h, hm⟩ := h.stable tA cA' _ _ rfl
          have hoA : (r2A pre x y)[k]? = some o := by rw [r2A, at_pre g1]; exact g2
          refine h.step hcl tA okA cA' pA hm (Nat.le_refl _) hoA (fun o' ho' i hi => ?_) hD hp1 hp2 fun a2 w2 ρ2 m2 h' => ih _ m2 w2 ρ2 a2 _ ?_ ?_ h' (hl.also md ho) ?_
          · rw [hoA] at ho'; injection ho' with ho'; subst ho'
            exact hrp o ho i hi
          · rw [also_other (by omega)]; exact h1
          · rw [also_other (by omega)]; exact h2
          · have := (und_also hD (pre.length + 2)).2 (by omega)
            omega
        · obtain ⟨m, h, hm⟩ := h.stable tA cA' _ _ rfl
          have hoA : (r2A pre o y)[pre.length]? = some o := by rw [r2A, at_x]
          refine h.step hcl tA okA cA' pA hm (Nat.le_refl _) hoA (fun o' ho' i hi => ?_) hD hp1 hp2 fun a2 w2 ρ2 m2 h' => ?_
          · rw [hoA] at ho'; injection ho' with ho'; subst ho'
            exact hrp o ho i hi
          · refine any_sound (w0 := w) (ρ0 := ρ) (H0 := HA 0) (ds := a.defers) hcl mA tA okA cA' pA (Nat.le_refl _) (fun a' w' ρ' e hs hd => ?_) fuel _ m2 w2 ρ2 a2 _ (fun i hi => by subst hi; simp [also]) h' (hlA.also mA hoA) ?_
            · rw [lA] at e hs; exact hQ a' w' ρ' e hs hd
            · have := (und_also hD (pre.length + 2)).2 (by omega)
              rw [lA]; omega
        · have hInv := h.toB hx tA tB eSB0.symm eHB0.symm h1 h2
          obtain ⟨m, hInv, hm⟩ := hInv.stable tB cB' _ _ rfl
          have hoB : (r2B pre x o)[pre.length]? = some o := by rw [r2B, at_x]
          refine hInv.step hcl tB okB cB' pB hm (by rw [eHB0]; exact Nat.le_refl _) hoB (fun o' ho' i hi => ?_) h1 hp1 hp2 fun a2 w2 ρ2 m2 h' => ?_
          · rw [hoB] at ho'; injection ho' with ho'; subst ho'
            exact hrp o ho i hi
          · refine any_sound (w0 := w) (ρ0 := ρ) (H0 := HA 0) (ds := a.defers) hcl mB tB okB cB' pB (by rw [eHB0]; exact Nat.le_refl _) (fun a' w' ρ' e hs hd => ?_) fuel _ m2 w2 ρ2 a2 _ (fun i hi => by subst hi; simp [also]) h' (hlB.also mB hoB) ?_
            · rw [lB, eS] at hs; rw [lB] at e
              rw [b4] at e hs
              exact hQ a' w' ρ' e hs hd
            · have := (und_also h1 (pre.length + 2)).2 (by omega)
              rw [lB]; omega
  refine wp_region_any hmix ?_
  refine phase ps.size (fun _ => false) 0 _ ρ a _ rfl rfl ⟨Nat.zero_le _, ?_, fun _ _ _ _ _ => rfl, ?_, ?_, ew, ?_, rfl⟩ ?_ ?_
  · intro k o _ _; simp
  · intro j o _ hj; cases hj
  · rw [mask_none]; exact hs.same rfl rfl rfl rfl
  · intro k o _ _ hk; omega
  · intro k o ho
    obtain ⟨p, hp, _⟩ := md.mat k o ho
    have := (Array.getElem?_eq_some_iff.1 hp).1
    simp [this]
  · have := md.size
    simp at this
    exact Nat.le_trans (und_le _ _) (by omega)
end
end
end Go.AM

/- Code, results, a function's body. -/
namespace Go.AM
set_option linter.unusedVariables false
set_option linter.unusedSimpArgs false

def outE : Out → Exit
  | .normal => .normal
  | .exit id => .exit id
  | .ret => .ret

section
variable (L : Link) (E : Env)
def mCode : RC → Code → Bool
  | .skip, .skip => true
  | .region ops false, .region _ ps false => mROs L E ps ops ps.toList
  | .region ops true, .region _ ps true => mDraw L E ps ops
  | .region2 pre x y, .region _ ps true => mDraw L E ps (pre ++ [x, y])
  | .seq a b, .seq c d => mCode a c && mCode b d
  | .cond x a b, .cond y c d => mX L E y x && mCode a c && mCode b d
  | .block i a, .block j c => i == j && mCode a c
  | .loop a, .loop c => mCode a c
  | .exit i, .exit j => i == j
  | .ret, .ret => true
  | _, _ => false
def mRes : List RRes → List ResultVar → Bool
  | [], [] => true
  | .tmp t :: r, .tmp u :: q => t == u && mRes r q
  | .cell t sh :: r, .cell u ty :: q => t == u && shOk L.P ty sh && mRes r q
  | _, _ => false
def mFun (f : RF) (fn : Func) : Bool :=
  fn.ntmps == f.nt && fn.name != "runtime.NumGoroutine" && mRes L f.res fn.results.toList && match fn.body with | some c => mCode L E f.body c | none => false
end

section
variable {L : Link} {E : Env} {cl : Nat → List AV → Heap → Option (AV × Heap)} {w : World} {ρ : Map} {H : Heap} {s : List AV} {a : Act}
theorem exec_sound (hcl : CallS L E cl) (hmix : L.P.follows .mixedOrders = true) (k : Nat) : ∀ (rc : RC) {c : Code} {w : World} {ρ : Map} {H : Heap} {s : List AV} {a : Act} {out : Out} {s' : List AV} {H' : Heap} {Q : Exit → Act → World → Prop}, mCode L E rc c = true → SR L E w ρ H s a →
    exec E cl k rc s H = some (out, s', H') → (∀ a' w' ρ', Ext w ρ H w' ρ' H' → SR L E w' ρ' H' s' a' → a'.defers = a.defers → Q (outE out) a' w') → c.wp L.P Q a w := by
  intro rc
  induction rc with
  | skip =>
    intro c w ρ H s a out s' H' Q m hs h hQ
    cases c <;> simp only [mCode, Bool.false_eq_true] at m
    simp only [exec, Option.some.injEq, Prod.mk.injEq] at h
    obtain ⟨rfl, rfl, rfl⟩ := h
    exact wp_skip (hQ a w ρ (Ext.refl _ _ _) hs rfl)
  | region ops draw =>
    intro c w ρ H s a out s' H' Q m hs h hQ
    cases draw
    · cases c <;> try (simp only [mCode, Bool.false_eq_true] at m; done)
      rename_i id ps d
      cases d
      · simp only [mCode] at m
        simp only [exec] at h
        obtain ⟨⟨s1, H1⟩, h1, h2⟩ := Option.map_eq_some_iff.1 h
        injection h2 with h2 h3; injection h3 with h3 h4
        subst h2; subst h3; subst h4
        exact region_sound hcl hs m h1 hQ
      · simp [mCode] at m
    · cases c <;> try (simp only [mCode, Bool.false_eq_true] at m; done)
      rename_i id ps d
      cases d
      · simp [mCode] at m
      · simp only [mCode] at m
        simp only [exec] at h
        split at h
        case isFalse => cases h
        rename_i hok
        obtain ⟨⟨s1, H1, tr⟩, h1, h2⟩ := Option.bind_eq_some_iff.1 h
        simp only at h2
        split at h2
        case isFalse => cases h2
        rename_i hcp
        injection h2 with h2; injection h2 with h2 h3; injection h3 with h3 h4
        subst h2; subst h3; subst h4
        rw [Bool.and_eq_true] at hcp
        exact draw_sound hcl hmix hs m hok h1 hcp.1 hcp.2 hQ
  | region2 pre x y =>
    intro c w ρ H s a out s' H' Q m hs h hQ
    cases c <;> try (simp only [mCode, Bool.false_eq_true] at m; done)
    rename_i id ps d
    cases d
    · simp [mCode] at m
    · simp only [mCode] at m
      simp only [exec] at h
      split at h
      case isFalse => cases h
      rename_i hok
      obtain ⟨⟨s1, H1, tr⟩, h1, h2⟩ := Option.bind_eq_some_iff.1 h
      obtain ⟨⟨s2, H2, tr2⟩, h3, h4⟩ := Option.bind_eq_some_iff.1 h2
      simp only at h4
      split at h4
      case isFalse => cases h4
      rename_i hcp
      injection h4 with h4; injection h4 with h4 h5; injection h5 with h5 h6
      subst h4; subst h5; subst h6
      simp only [Bool.and_eq_true, decide_eq_true_eq] at hcp
      obtain ⟨⟨⟨c1, c2⟩, c3, c4⟩, rfl⟩ := hcp
      exact draw2_sound hcl hmix hs m hok h1 h3 c1 c2 c3 c4 hQ
  | seq x y ihx ihy =>
    intro c w ρ H s a out s' H' Q m hs h hQ
    cases c <;> simp only [mCode, Bool.false_eq_true] at m
    rename_i c d
    rw [Bool.and_eq_true] at m
    simp only [exec] at h
    obtain ⟨⟨o1, s1, H1⟩, h1, h2⟩ := Option.bind_eq_some_iff.1 h
    refine wp_seq (ihx m.1 hs h1 fun a1 w1 ρ1 e1 hs1 hd1 => ?_)
    cases o1 with
    | normal =>
      simp only at h2
      exact ihy m.2 hs1 h2 fun a2 w2 ρ2 e2 hs2 hd2 => hQ a2 w2 ρ2 (e1.trans e2) hs2 (hd2.trans hd1)
    | exit id =>
      simp only at h2
      injection h2 with h2; injection h2 with h2 h3; injection h3 with h3 h4
      subst h2; subst h3; subst h4
      exact hQ a1 w1 ρ1 e1 hs1 hd1
    | ret =>
      simp only at h2
      injection h2 with h2; injection h2 with h2 h3; injection h3 with h3 h4
      subst h2; subst h3; subst h4
      exact hQ a1 w1 ρ1 e1 hs1 hd1
  | cond x y z ihy ihz =>
    intro c w ρ H s a out s' H' Q m hs h hQ
    cases c <;> simp only [mCode, Bool.false_eq_true] at m
    simp only [Bool.and_eq_true] at m
    obtain ⟨⟨m1, m2⟩, m3⟩ := m
    simp only [exec] at h
    have hv := hs.ev m1
    split at h
    · rename_i hx
      rw [hx] at hv
      exact wp_cond_true hv.bool_inv (ihy m2 hs h hQ)
    · rename_i hx
      rw [hx] at hv
      exact wp_cond_false hv.bool_inv (ihz m3 hs h hQ)
    · cases h
  | block id x ih =>
    intro c w ρ H s a out s' H' Q m hs h hQ
    cases c <;> simp only [mCode, Bool.false_eq_true] at m
    simp only [Bool.and_eq_true, beq_iff_eq] at m
    obtain ⟨rfl, m⟩ := m
    simp only [exec] at h
    obtain ⟨⟨o1, s1, H1⟩, h1, h2⟩ := Option.map_eq_some_iff.1 h
    refine wp_block (ih m hs h1 fun a1 w1 ρ1 e1 hs1 hd1 => ?_)
    cases o1 with
    | normal =>
      simp only at h2
      injection h2 with h2 h3; injection h3 with h3 h4
      subst h2; subst h3; subst h4
      exact hQ a1 w1 ρ1 e1 hs1 hd1
    | exit j =>
      simp only at h2
      simp only [outE, Exit.inBlock]
      split at h2
      · rename_i hj
        injection h2 with h2 h3; injection h3 with h3 h4
        subst h2; subst h3; subst h4
        rw [if_pos hj]
        exact hQ a1 w1 ρ1 e1 hs1 hd1
      · rename_i hj
        injection h2 with h2 h3; injection h3 with h3 h4
        subst h2; subst h3; subst h4
        rw [if_neg hj]
        exact hQ a1 w1 ρ1 e1 hs1 hd1
    | ret =>
      simp only at h2
      injection h2 with h2 h3; injection h3 with h3 h4
      subst h2; subst h3; subst h4
      exact hQ a1 w1 ρ1 e1 hs1 hd1
  | loop x ih =>
    intro c w ρ H s a out s' H' Q m hs h hQ
    cases c <;> simp only [mCode, Bool.false_eq_true] at m
    rename_i c
    simp only [exec] at h
    have key : ∀ (n : Nat) {w : World} {ρ : Map} {H : Heap} {s : List AV} {a : Act}, SR L E w ρ H s a → exec.rounds n (exec E cl k x) s H = some (out, s', H') →
        (∀ a' w' ρ', Ext w ρ H w' ρ' H' → SR L E w' ρ' H' s' a' → a'.defers = a.defers → Q (outE out) a' w') → Code.rounds L.P c Q n a w := by
      intro n
      induction n with
      | zero => intro w ρ H s a hs h hQ; simp [exec.rounds] at h
      | succ n ihn =>
        intro w ρ H s a hs h hQ
        simp only [exec.rounds] at h
        obtain ⟨⟨o1, s1, H1⟩, h1, h2⟩ := Option.bind_eq_some_iff.1 h
        rw [rounds_succ]
        refine ih m hs h1 fun a1 w1 ρ1 e1 hs1 hd1 => ?_
        cases o1 with
        | normal =>
          simp only at h2
          exact ihn hs1 h2 fun a2 w2 ρ2 e2 hs2 hd2 => hQ a2 w2 ρ2 (e1.trans e2) hs2 (hd2.trans hd1)
        | exit id =>
          simp only at h2
          injection h2 with h2; injection h2 with h2 h3; injection h3 with h3 h4
          subst h2; subst h3; subst h4
          exact hQ a1 w1 ρ1 e1 hs1 hd1
        | ret =>
          simp only at h2
          injection h2 with h2; injection h2 with h2 h3; injection h3 with h3 h4
          subst h2; subst h3; subst h4
          exact hQ a1 w1 ρ1 e1 hs1 hd1
    exact wp_loop_rounds k (key k hs h hQ)
  | exit id =>
    intro c w ρ H s a out s' H' Q m hs h hQ
    cases c <;> simp only [mCode, Bool.false_eq_true] at m
    simp only [beq_iff_eq] at m
    subst m
    simp only [exec, Option.some.injEq, Prod.mk.injEq] at h
    obtain ⟨rfl, rfl, rfl⟩ := h
    exact wp_exit (hQ a w ρ (Ext.refl _ _ _) hs rfl)
  | ret =>
    intro c w ρ H s a out s' H' Q m hs h hQ
    cases c <;> simp only [mCode, Bool.false_eq_true] at m
    simp only [exec, Option.some.injEq, Prod.mk.injEq] at h
    obtain ⟨rfl, rfl, rfl⟩ := h
    exact wp_ret (hQ a w ρ (Ext.refl _ _ _) hs rfl)

def resF (tmps : Array Value) : ResultVar → Sem Value
  | .tmp t => Pure.pure (tmps.getD t Go.undef)
  | .cell u t => do loadVar t (← asAddr (tmps.getD u Go.undef))
theorem mapM_run {α : Type} (F : α → Sem Value) (q : α) (qs : List α) {P : Program} {y : Value} {ys : List Value} (h : (F q).run P w = .ok y w) (h2 : (qs.mapM F).run P w = .ok ys w) : ((q :: qs).mapM F).run P w = .ok (y :: ys) w := by
  rw [List.mapM_cons]
  simp only [Sem.run_bind, Sem.run_pure, h, h2, Result.andThen_ok]
theorem res_ok (hs : SR L E w ρ H s a) : ∀ {rs : List RRes} {qs : List ResultVar} {vs : List AV}, mRes L rs qs = true → resOf s H rs = some vs →
    ∃ ys, (qs.mapM (resF a.tmps)).run L.P w = .ok ys w ∧ VRs L w ρ (Own ρ H) vs ys := by
  intro rs
  have hget : ∀ t, VR L w ρ (Own ρ H) (s.getD t undef) (a.tmps.getD t Go.undef) := fun t => by
    have := hs.vs.getD t (d := undef) (e := Go.undef) VR.undef
    simpa [Array.getD_eq_getD_getElem?, List.getD_eq_getElem?_getD] using this
  induction rs with
  | nil =>
    intro qs vs m h
    cases qs <;> simp only [mRes, Bool.false_eq_true] at m
    simp only [resOf, Option.some.injEq] at h
    subst h
    exact ⟨[], by simp, .nil⟩
  | cons r rs ih =>
    intro qs vs m h
    cases qs with
    | nil => cases r <;> simp [mRes] at m
    | cons q qs =>
      cases r with
      | tmp t =>
        cases q <;> simp only [mRes, Bool.false_eq_true] at m
        simp only [Bool.and_eq_true, beq_iff_eq] at m
        obtain ⟨rfl, m⟩ := m
        simp only [resOf] at h
        obtain ⟨vs', h1, rfl⟩ := Option.map_eq_some_iff.1 h
        obtain ⟨ys, h2, h3⟩ := ih m h1
        exact ⟨a.tmps.getD t Go.undef :: ys, mapM_run _ _ _ rfl h2, .cons (hget t) h3⟩
      | cell t sh =>
        cases q <;> simp only [mRes, Bool.false_eq_true] at m
        rename_i u ty
        simp only [Bool.and_eq_true, beq_iff_eq] at m
        obtain ⟨⟨rfl, hsh⟩, m⟩ := m
        simp only [resOf] at h
        obtain ⟨v, hv, h⟩ := Option.bind_eq_some_iff.1 h
        obtain ⟨vs', h1, rfl⟩ := Option.map_eq_some_iff.1 h
        obtain ⟨ys, h2, h3⟩ := ih m h1
        have hp := hget t
        obtain ⟨y, hy, hvy⟩ := load_ok hs.hr hsh hp hv
        have hpt : ∃ ad, a.tmps.getD t Go.undef = .pointer (some ad) := by
          generalize a.tmps.getD t Go.undef = z at hp
          generalize s.getD t undef = zz at hp hv
          cases hp <;> first | exact ⟨_, rfl⟩ | (simp [loadA] at hv)
        obtain ⟨ad, had⟩ := hpt
        rw [had] at hy
        have hld : (loadVar ty ad).run L.P w = .ok y w := by simpa [Instr.loadAt, Instr.sureAddr] using hy
        exact ⟨y :: ys, mapM_run _ _ _ (by simp only [resF, had, asAddr, Sem.run_bind, Sem.run_pure, Result.andThen_ok, hld]) h2, .cons hvy h3⟩

theorem results_ok (hs : SR L E w ρ H s a) {rs : List RRes} {fn : Func} {vs : List AV} (m : mRes L rs fn.results.toList = true) (h : resOf s H rs = some vs) : ∃ x, (results fn a.tmps).run L.P w = .ok x w ∧ VR L w ρ (Own ρ H) (packA vs) x := by
  obtain ⟨ys, h1, h2⟩ := res_ok hs m h
  refine ⟨if h : ys.toArray.size = 1 then ys.toArray[0] else .tuple ys.toArray, ?_, ?_⟩
  · have e : results fn a.tmps = (do let vs ← fn.results.mapM (resF a.tmps); Pure.pure (if h : vs.size = 1 then vs[0] else .tuple vs)) := rfl
    rw [e, Array.mapM_eq_mapM_toList]
    simp only [Sem.run_bind, map_eq_pure_bind]
    rw [h1]
    rfl
  · cases h2 with
    | nil => exact VR.tup .nil
    | cons h3 h4 => cases h4 with
      | nil => simpa [packA] using h3
      | cons h5 h6 =>
        have := VR.tup (L := L) (w := w) (ρ := ρ) (own := Own ρ H) (VRs.cons h3 (VRs.cons h5 h6))
        simpa [packA] using this

theorem VRs.pad {own : Nat → Prop} {vs : List AV} {xs : List Value} (h : VRs L w ρ own vs xs) (n : Nat) : VRs L w ρ own (vs ++ List.replicate (n - vs.length) undef) (xs.toArray ++ Array.replicate (n - xs.toArray.size) Go.undef).toList := by
  have := h.append (VRs.replicate (L := L) (w := w) (ρ := ρ) (own := own) (n - vs.length) VR.undef)
  rw [h.length] at this ⊢
  simpa using this

theorem body_sound (hcl : CallS L E cl) (hmix : L.P.follows .mixedOrders = true) {k : Nat} {f : RF} {fn : Func} {g : FuncId} (hfn : L.P.funcs[g]? = some fn) (m : mFun L E f fn = true) (hr : HR L w ρ H) (hg : GL L E w ρ H) {args : List AV} {xs : List Value} (hx : VRs L w ρ (Own ρ H) args xs) {v : AV} {H' : Heap}
    (h : bodyF E cl k f args H = some (v, H')) : Calls L.P g xs.toArray w fun e w' => ∃ x ρ', e = .returned x ∧ Ext w ρ H w' ρ' H' ∧ HR L w' ρ' H' ∧ VR L w' ρ' (Own ρ' H') v x := by
  simp only [mFun, Bool.and_eq_true, beq_iff_eq, bne_iff_ne, ne_eq] at m
  obtain ⟨⟨⟨m1, m2⟩, m3⟩, m4⟩ := m
  cases hb : fn.body with
  | none => rw [hb] at m4; cases m4
  | some c =>
    rw [hb] at m4
    refine calls_of_wp hfn hb ?_
    unfold bodyF at h
    obtain ⟨⟨out, s', H1⟩, h1, h2⟩ := Option.bind_eq_some_iff.1 h
    have hs : SR L E w ρ H (args ++ List.replicate (f.nt - args.length) undef) { tmps := xs.toArray ++ Array.replicate (fn.ntmps - xs.toArray.size) Go.undef, defers := [] } := by
      refine ⟨hr, ?_, hg⟩
      rw [m1]
      exact hx.pad f.nt
    refine exec_sound hcl hmix k f.body m4 hs h1 fun a' w' ρ' e hs' hd => ?_
    have key : (resOf s' H1 f.res).map (fun vs => (packA vs, H1)) = some (v, H') → a'.defers = [] ∧ ∃ v', (results fn a'.tmps).run L.P w' = .ok v' w' ∧ ∃ x ρ', Ending.returned v' = .returned x ∧ Ext w ρ H w' ρ' H' ∧ HR L w' ρ' H' ∧ VR L w' ρ' (Own ρ' H') v x := by
      intro h3
      obtain ⟨vs, h4, h5⟩ := Option.map_eq_some_iff.1 h3
      injection h5 with h5 h6
      subst h5; subst h6
      obtain ⟨x, hx1, hx2⟩ := results_ok hs' m3 h4
      exact ⟨hd, x, hx1, x, ρ', rfl, e, hs'.hr, hx2⟩
    cases out with
    | normal => exact key h2
    | exit id => simp at h2
    | ret => exact key h2

theorem callFunc_run {g : FuncId} {fn : Func} (hfn : L.P.funcs[g]? = some fn) {f : RF} (m : mFun L E f fn = true) (xs : Array Value) : (callFunc g xs).run L.P w = .ok (.enter g xs) w := by
  simp only [mFun, Bool.and_eq_true, beq_iff_eq, bne_iff_ne, ne_eq] at m
  obtain ⟨⟨⟨m1, m2⟩, m3⟩, m4⟩ := m
  have hb : fn.body.isNone = false := by cases hb : fn.body <;> simp_all
  have hn : (fn.name == "runtime.NumGoroutine") = false := by simpa using m2
  simp only [callFunc, Sem.run_bind]
  change ((Result.ok L.P w).andThen _) = _
  simp only [Result.andThen_ok, hfn, hn, hb, Bool.false_eq_true, if_false, Sem.run_pure]
end
end Go.AM

/- Values made plain: what they stand for. -/
namespace Go.AM
set_option linter.unusedVariables false
set_option linter.unusedSimpArgs false

theorem noIdsL_append : ∀ (a b : List AV), AV.noIdsL (a ++ b) = (AV.noIdsL a && AV.noIdsL b)
  | [], b => by simp [AV.noIdsL]
  | v :: r, b => by simp [AV.noIdsL, noIdsL_append r b, Bool.and_assoc]
theorem noIds_cells (v : AV) (h : AV.noIds v = true) : AV.noIdsL v.cells = true := by
  cases v <;> simp_all [AV.cells, AV.noIds, AV.noIdsL]
theorem noIds_flat : ∀ (xs : List AV), AV.noIdsL xs = true → AV.noIdsL (xs.flatMap AV.cells) = true
  | [], _ => rfl
  | v :: r, h => by
    simp only [AV.noIdsL, Bool.and_eq_true] at h
    simp only [List.flatMap_cons, noIdsL_append, Bool.and_eq_true]
    exact ⟨noIds_cells v h.1, noIds_flat r h.2⟩

section
variable {L : Link} {w : World}
mutual
theorem VR.plain {ρ ρ2 : Map} {own own2 : Nat → Prop} (ho : ∀ c, own2 c → own c) : ∀ {v : AV} {x : Value}, VR L w ρ own v x → AV.noIds v = true → VR L w ρ2 own2 v x
  | _, _, .bool b, _ => .bool b
  | _, _, .int k n, _ => .int k n
  | _, _, .str s, _ => .str s
  | _, _, .nilp, _ => .nilp
  | _, _, .ptr h, hn => by simp [AV.noIds] at hn
  | _, _, .dptr h hi hc hw, hn => .dptr (VRs.plain ho h (by simpa [AV.noIds] using hn)) hi hc fun hp o => hw hp (ho _ o)
  | _, _, .nils, _ => .nils
  | _, _, .sl h hl hc, hn => by simp [AV.noIds] at hn
  | _, _, .data (xs := xs) h hi hl hc hw, hn => .data (VRs.plain ho h (noIds_flat _ (by simpa [AV.noIds] using hn))) hi hl hc fun hp o => hw hp (ho _ o)
  | _, _, .nilm, _ => .nilm
  | _, _, .map h, hn => by simp [AV.noIds] at hn
  | _, _, .dmap hw hc hk hv, hn => by
    simp only [AV.noIds, Bool.and_eq_true] at hn
    exact .dmap hw (fun o => hc (ho _ o)) (VRs.plain ho hk hn.1) (VRs.plain ho hv hn.2)
  | _, _, .nilf, _ => .nilf
  | _, _, .fn h, hn => .fn (VRs.plain ho h (by simpa [AV.noIds] using hn))
  | _, _, .nili, _ => .nili
  | _, _, .iface h, hn => .iface (VR.plain ho h (by simpa [AV.noIds] using hn))
  | _, _, .agg h hc, hn => .agg (VRs.plain ho h (by simpa [AV.noIds] using hn)) hc
  | _, _, .tup h, hn => .tup (VRs.plain ho h (by simpa [AV.noIds] using hn))
theorem VRs.plain {ρ ρ2 : Map} {own own2 : Nat → Prop} (ho : ∀ c, own2 c → own c) : ∀ {v : List AV} {x : List Value}, VRs L w ρ own v x → AV.noIdsL v = true → VRs L w ρ2 own2 v x
  | _, _, .nil, _ => .nil
  | _, _, .cons h r, hn => by
    simp only [AV.noIdsL, Bool.and_eq_true] at hn
    exact .cons (VR.plain ho h hn.1) (VRs.plain ho r hn.2)
end
end
end Go.AM

/- What a run made, told as memory that nobody writes. -/
namespace Go.AM
set_option linter.unusedVariables false
set_option linter.unusedSimpArgs false

theorem cell_cells {v : AV} (h : v.isCell = true) : v.cells = [v] := by cases v <;> simp_all [AV.isCell, AV.cells]
theorem chunk_ok {sh : Option Nat} : ∀ (n : Nat) {cs xs : List AV}, chunk sh n cs = some xs → (∀ v ∈ cs, v.isCell = true) → xs.length = n ∧ xs.flatMap AV.cells = cs.take (n * szOf sh)
  | 0, cs, xs, h, hc => by
    simp only [chunk, Option.some.injEq] at h
    subst h; simp
  | n + 1, cs, xs, h, hc => by
    simp only [chunk] at h
    obtain ⟨v, hv, h⟩ := Option.bind_eq_some_iff.1 h
    obtain ⟨r, hr, rfl⟩ := Option.map_eq_some_iff.1 h
    obtain ⟨h1, h2⟩ := chunk_ok n hr fun v hv => hc v (List.mem_of_mem_drop hv)
    refine ⟨by simp [h1], ?_⟩
    rw [List.flatMap_cons, h2]
    have e : (n + 1) * szOf sh = szOf sh + n * szOf sh := by rw [Nat.succ_mul, Nat.add_comm]
    rw [e, List.take_add]
    congr 1
    cases sh with
    | none =>
      simp only [mkv] at hv
      cases cs with
      | nil => simp at hv
      | cons c r =>
        simp only [List.head?_cons, Option.some.injEq] at hv
        subst hv
        rw [cell_cells (hc c (by simp))]
        simp [szOf]
    | some m =>
      simp only [mkv] at hv
      split at hv
      · injection hv with hv; subst hv; simp [AV.cells, szOf]
      · cases hv

/-! ### What has no numbers stays as it is -/
theorem pub_same : ∀ (k : Nat) (H : Heap), (∀ v v', pub false k H v = some v' → AV.noIds v = true → v' = v) ∧ (∀ vs vs', pubL false k H vs = some vs' → AV.noIdsL vs = true → vs' = vs)
  | 0, H => ⟨fun v v' h => by simp [pub] at h, fun vs vs' h => by simp [pubL] at h⟩
  | k + 1, H => by
    obtain ⟨ih1, ih2⟩ := pub_same k H
    constructor
    · intro v v' h hn
      cases v <;> simp only [pub] at h <;> simp only [AV.noIds, Bool.false_eq_true] at hn <;> try (injection h with h; exact h.symm)
      case dptr cs => split at h <;> first | (cases h; done) | (split at h <;> first | (cases h; done) | (cases h; rfl)) | (cases h; rfl)
      case data xs => split at h <;> first | (cases h; done) | (split at h <;> first | (cases h; done) | (cases h; rfl)) | (cases h; rfl)
      case dmap ks vs => split at h <;> first | (cases h; done) | (split at h <;> first | (cases h; done) | (cases h; rfl)) | (cases h; rfl)
      case fn g cp => obtain ⟨r, h1, rfl⟩ := Option.map_eq_some_iff.1 h; rw [ih2 _ _ h1 hn]
      case iface t v => obtain ⟨r, h1, rfl⟩ := Option.map_eq_some_iff.1 h; rw [ih1 _ _ h1 hn]
      case agg cs => obtain ⟨r, h1, rfl⟩ := Option.map_eq_some_iff.1 h; rw [ih2 _ _ h1 hn]
      case tup vs => obtain ⟨r, h1, rfl⟩ := Option.map_eq_some_iff.1 h; rw [ih2 _ _ h1 hn]
    · intro vs vs' h hn
      cases vs with
      | nil => simp only [pubL, Option.some.injEq] at h; exact h.symm
      | cons v r =>
        simp only [pubL] at h
        simp only [AV.noIdsL, Bool.and_eq_true] at hn
        obtain ⟨v1, h1, h⟩ := Option.bind_eq_some_iff.1 h
        obtain ⟨r1, h2, rfl⟩ := Option.map_eq_some_iff.1 h
        rw [ih1 _ _ h1 hn.1, ih2 _ _ h2 hn.2]

section
variable {L : Link} {w : World} {ρ : Map} {H : Heap}
theorem VRs.seg {own : Nat → Prop} {cs : List AV} {vals : List Value} (h : VRs L w ρ own cs vals) : cs.length = vals.length := h.length

theorem pub_sound {ρ2 : Map} {own2 : Nat → Prop} {fr : Bool} (hr : HR L w ρ H) (hf : ∀ c, Mine ρ H c → ¬ own2 c) (ho : fr = false → ∀ c, own2 c → Own ρ H c) : ∀ (k : Nat),
    (∀ v x v', pub fr k H v = some v' → VR L w ρ (Own ρ H) v x → VR L w ρ2 own2 v' x ∧ (v.isCell = true → v'.isCell = true)) ∧
    (∀ vs xs vs', pubL fr k H vs = some vs' → VRs L w ρ (Own ρ H) vs xs → VRs L w ρ2 own2 vs' xs ∧ vs'.length = vs.length ∧ ((∀ v ∈ vs, v.isCell = true) → ∀ v ∈ vs', v.isCell = true))
  | 0 => ⟨fun v x v' h => by simp [pub] at h, fun vs xs vs' h => by simp [pubL] at h⟩
  | k + 1 => by
    obtain ⟨ih1, ih2⟩ := pub_sound hr hf ho k
    constructor
    · intro v x v' h hv
      cases hv <;> simp only [pub] at h
      case bool b => injection h with h; subst h; exact ⟨.bool b, fun h => h⟩
      case int i n => injection h with h; subst h; exact ⟨.int i n, fun h => h⟩
      case str s => injection h with h; subst h; exact ⟨.str s, fun h => h⟩
      case nilp => injection h with h; subst h; exact ⟨.nilp, fun h => h⟩
      case nils => injection h with h; subst h; exact ⟨.nils, fun h => h⟩
      case nilm => injection h with h; subst h; exact ⟨.nilm, fun h => h⟩
      case nilf => injection h with h; subst h; exact ⟨.nilf, fun h => h⟩
      case nili => injection h with h; subst h; exact ⟨.nili, fun h => h⟩
      case ptr b off c base hb =>
        have key : ∀ cs, (H[b]? = some (.cells cs) ∨ ∃ sz tag fz, H[b]? = some (.arr sz tag fz cs)) → (if off ≤ cs.length then (pubL fr k H (cs.drop off)).map AV.dptr else none) = some v' → VR L w ρ2 own2 v' (.pointer (some ⟨c, base + off, none⟩)) ∧ (true = true → v'.isCell = true) := by
          intro cs hx hm
          split at hm
          case isFalse => cases hm
          obtain ⟨r, h1, rfl⟩ := Option.map_eq_some_iff.1 hm
          obtain ⟨vals, hv, hi, hc⟩ := hr.read hb hx
          obtain ⟨g1, g2, g3⟩ := ih2 _ _ _ h1 (hv.drop off)
          refine ⟨.dptr g1 (g3 fun v hv => hi v (List.mem_of_mem_drop hv)) (fun j hj => ?_) fun _ => hf c ⟨b, base, hb, ?_⟩, fun _ => rfl⟩
          · have hj' : (vals.drop off)[j]? = some (vals.drop off)[j] := List.getElem?_eq_getElem hj
            rw [hj', Addr.plain_add, Nat.add_assoc]
            exact hc _ _ (by rw [List.getElem?_drop] at hj'; exact hj')
          · rcases hx with hx | ⟨_, _, _, hx⟩
            · exact live_of hx (by simp)
            · exact live_of hx (by simp)
        split at h
        · rename_i cs hx; exact key cs (.inl hx) h
        · rename_i cs hx; exact key cs (.inr ⟨_, _, _, hx⟩) h
        · cases h
      case dptr cs vals a h1 h2 h3 h4 =>
        split at h
        case isTrue => cases h
        rename_i hfr
        split at h
        case isFalse => cases h
        rename_i hn
        injection h with h; subst h
        exact ⟨.dptr (VRs.plain (ho (by simpa using hfr)) h1 hn) h2 h3 fun hp o => h4 hp (ho (by simpa using hfr) _ o), fun h => h⟩
      case sl b off len sh c base cap a hb hl hc =>
        split at h
        case h_2 => cases h
        rename_i sz tag fz cs hx
        split at h
        case isFalse => cases h
        rename_i hle
        obtain ⟨rfl, hle⟩ := hle
        obtain ⟨r, h1, h⟩ := Option.bind_eq_some_iff.1 h
        obtain ⟨q, h2, rfl⟩ := Option.map_eq_some_iff.1 h
        obtain ⟨vals, hv, hi, hcl⟩ := hr.read hb (.inr ⟨_, _, _, hx⟩)
        have hseg := (hv.drop off).take (len * szOf sh)
        obtain ⟨g1, g2, g3⟩ := ih2 _ _ _ h1 hseg
        have hcell : ∀ v ∈ r, v.isCell = true := g3 fun v hv => hi v (List.mem_of_mem_drop (List.mem_of_mem_take hv))
        obtain ⟨c1, c2⟩ := chunk_ok len h2 hcell
        have hrl : r.length = len * szOf sh := by rw [g2]; simp; omega
        have e : q.flatMap AV.cells = r := by rw [c2, ← hrl, List.take_length]
        refine ⟨?_, fun _ => rfl⟩
        have hvl : ((vals.drop off).take (len * szOf sh)).length = r.length := g1.length.symm
        have hpos : 0 < ((vals.drop off).take (len * szOf sh)).length → a = ⟨c, base + off, none⟩ := by
          intro hp
          refine (hc ?_).1
          rw [hvl, hrl] at hp
          rcases Nat.eq_zero_or_pos len with h0 | h0
          · rw [h0] at hp; simp at hp
          · omega
        have := VR.data (L := L) (w := w) (ρ := ρ2) (own := own2) (xs := q) (vals := (vals.drop off).take (len * szOf sh)) (a := a) (c := cap) (by rw [e]; exact g1) (by rw [e]; exact hcell) (by omega) (fun j hj => by
            have ha := hpos (by omega)
            subst ha
            have hj' : ((vals.drop off).take (len * szOf sh))[j]? = some ((vals.drop off).take (len * szOf sh))[j] := List.getElem?_eq_getElem hj
            rw [hj', Addr.plain_add, Nat.add_assoc]
            refine hcl _ _ ?_
            rw [List.getElem?_take] at hj'
            split at hj'
            · rw [List.getElem?_drop] at hj'; exact hj'
            · cases hj') (fun hp => by rw [hpos hp]; exact hf c ⟨b, base, hb, live_of hx (by simp)⟩)
        rw [c1] at this
        exact this
      case data xs vals a c h1 h2 h3 h4 h5 =>
        split at h
        case isTrue => cases h
        rename_i hfr
        split at h
        case isFalse => cases h
        rename_i hn
        injection h with h; subst h
        exact ⟨.data (VRs.plain (ho (by simpa using hfr)) h1 (noIds_flat _ hn)) h2 h3 h4 fun hp o => h5 hp (ho (by simpa using hfr) _ o), fun h => h⟩
      case map b c hb =>
        split at h
        case h_2 => cases h
        rename_i ks vs hx
        obtain ⟨ks', h1, h⟩ := Option.bind_eq_some_iff.1 h
        obtain ⟨vs', h2, rfl⟩ := Option.map_eq_some_iff.1 h
        obtain ⟨_, es, hw, hk, hv, _⟩ := hr.blk b c 0 _ hb hx
        exact ⟨.dmap hw (hf c ⟨b, 0, hb, live_of hx (by simp)⟩) (ih2 _ _ _ h1 hk).1 (ih2 _ _ _ h2 hv).1, fun _ => rfl⟩
      case dmap ks vs es clock c h1 h2 h3 h4 =>
        split at h
        case isTrue => cases h
        rename_i hfr
        split at h
        case isFalse => cases h
        rename_i hn
        injection h with h; subst h
        rw [Bool.and_eq_true] at hn
        exact ⟨.dmap h1 (fun o => h2 (ho (by simpa using hfr) _ o)) (VRs.plain (ho (by simpa using hfr)) h3 hn.1) (VRs.plain (ho (by simpa using hfr)) h4 hn.2), fun h => h⟩
      case fn g cp xs hc =>
        obtain ⟨r, h1, rfl⟩ := Option.map_eq_some_iff.1 h
        exact ⟨.fn (ih2 _ _ _ h1 hc).1, fun _ => rfl⟩
      case iface t v x hc =>
        obtain ⟨r, h1, rfl⟩ := Option.map_eq_some_iff.1 h
        exact ⟨.iface (ih1 _ _ _ h1 hc).1, fun _ => rfl⟩
      case agg cs xs hc hi =>
        obtain ⟨r, h1, rfl⟩ := Option.map_eq_some_iff.1 h
        obtain ⟨g1, g2, g3⟩ := ih2 _ _ _ h1 hc
        exact ⟨.agg g1 (g3 hi), fun h => by simp [AV.isCell] at h⟩
      case tup vs xs hc =>
        obtain ⟨r, h1, rfl⟩ := Option.map_eq_some_iff.1 h
        exact ⟨.tup (ih2 _ _ _ h1 hc).1, fun h => by simp [AV.isCell] at h⟩
    · intro vs xs vs' h hv
      cases hv with
      | nil => simp only [pubL, Option.some.injEq] at h; subst h; exact ⟨.nil, rfl, fun h => h⟩
      | cons h1 h2 =>
        simp only [pubL] at h
        obtain ⟨v1, g1, h⟩ := Option.bind_eq_some_iff.1 h
        obtain ⟨r1, g2, rfl⟩ := Option.map_eq_some_iff.1 h
        obtain ⟨a1, a2⟩ := ih1 _ _ _ g1 h1
        obtain ⟨b1, b2, b3⟩ := ih2 _ _ _ g2 h2
        refine ⟨.cons a1 b1, by simp [b2], fun hc v hv => ?_⟩
        rcases List.mem_cons.1 hv with rfl | hv
        · exact a2 (hc _ (by simp))
        · exact b3 (fun v hv => hc v (by simp [hv])) v hv
end
end Go.AM

/- Calls: what the A-machine's run of a function shows of the program's. -/
namespace Go.AM
set_option linter.unusedVariables false
set_option linter.unusedSimpArgs false

structure Fit (L : Link) (E : Env) : Prop where
  mixed : L.P.follows .mixedOrders = true
  glob : ∀ (g : Nat) (cs : List AV), E.glob g = some cs → AV.noIdsL cs = true
  prim : ∀ (g : Nat) p, E.prim g = some p → ∀ args H v H', p args H = some (v, H') → ∀ w ρ xs, HR L w ρ H → GL L E w ρ H → VRs L w ρ (Own ρ H) args xs → CallOk L w ρ H (L.fn g) xs.toArray v H'
  fn : ∀ (g : Nat) (f : RF), E.fn g = some f → ∃ fn, L.P.funcs[L.fn g]? = some fn ∧ mFun L E f fn = true

/-- Of every function of a table. -/
def AllI (Q : Nat → RF → Prop) : Nat → List (Option RF) → Prop
  | _, [] => True
  | i, none :: r => AllI Q (i + 1) r
  | i, some f :: r => Q i f ∧ AllI Q (i + 1) r
theorem AllI.get {Q : Nat → RF → Prop} : ∀ {l : List (Option RF)} {i : Nat}, AllI Q i l → ∀ {j : Nat} {f : RF}, (l[j]?).getD none = some f → Q (i + j) f
  | [], i, _, j, f, h => by simp at h
  | none :: r, i, ha, 0, f, h => by simp at h
  | some g :: r, i, ha, 0, f, h => by simp at h; subst h; exact ha.1
  | none :: r, i, ha, j + 1, f, h => by
    have := AllI.get (l := r) (i := i + 1) ha (j := j) (by simpa using h)
    rwa [Nat.add_right_comm] at this
  | some g :: r, i, ha, j + 1, f, h => by
    have := AllI.get (l := r) (i := i + 1) ha.2 (j := j) (by simpa using h)
    rwa [Nat.add_right_comm] at this

section
variable {L : Link} {E : Env} {w : World} {ρ : Map} {H : Heap}
theorem own_lt (hr : HR L w ρ H) {c : Nat} (h : Own ρ H c) : c < w.heap.size := by
  rcases h with ⟨b, base, hb, _⟩ | h
  · exact (hr.dom b c base hb).2
  · exact hr.bar c h
theorem not_mine (B : Nat → Prop) (c : Nat) : ¬ Mine ⟨fun _ => none, B⟩ [] c := by rintro ⟨b, base, hb, _⟩; cases hb
theorem HR.empty (w : World) {B : Nat → Prop} (hB : ∀ c, B c → c < w.heap.size) : HR L w ⟨fun _ => none, B⟩ [] :=
  ⟨hB, fun _ _ _ h => (by cases h), fun _ _ _ _ _ h => (by cases h), fun _ _ _ _ h => (by cases h)⟩

/-- A run in a heap of its own. -/
theorem iso_sound (hE : Fit L E) {cl : Nat → List AV → Heap → Option (AV × Heap)} (hcl : CallS L E cl) {k : Nat} {f : RF} {fn : Func} {g : FuncId} (hfn : L.P.funcs[g]? = some fn) (m : mFun L E f fn = true) (hr : HR L w ρ H) (hg : GL L E w ρ H) {args args' : List AV} {xs : List Value}
    (hx : VRs L w ρ (Own ρ H) args xs) (ha : pubL false k H args = some args') {r : AV × Heap} (h : bodyF E cl k f args' [] = some r) {v : AV} (hp : pub (!AV.noIdsL args) k r.2 r.1 = some v) :
    Calls L.P g xs.toArray w fun e w' => ∃ x ρ', e = .returned x ∧ Ext w ρ H w' ρ' H ∧ HR L w' ρ' H ∧ VR L w' ρ' (Own ρ' H) v x := by
  obtain ⟨v0, H0⟩ := r
  have key : ∀ (B : Nat → Prop), (∀ c, B c → c < w.heap.size) → VRs L w ⟨fun _ => none, B⟩ (Own ⟨fun _ => none, B⟩ []) args' xs → (∀ c, B c → Own ρ H c) → ((!AV.noIdsL args) = false → ∀ c, Own ρ H c → B c) →
      Calls L.P g xs.toArray w fun e w' => ∃ x ρ', e = .returned x ∧ Ext w ρ H w' ρ' H ∧ HR L w' ρ' H ∧ VR L w' ρ' (Own ρ' H) v x := by
    intro B hB hxs hBo ho
    have hgl : GL L E w ⟨fun _ => none, B⟩ [] := fun i cs hi => VR.plain (fun c hc => by
      rcases hc with hc | hc
      · exact absurd hc (not_mine B c)
      · exact hBo c hc) (hg i cs hi) (by simpa [AV.noIds] using hE.glob i cs hi)
    refine (body_sound hcl hE.mixed hfn m (HR.empty w hB) hgl hxs h).mono ?_
    rintro e w' ⟨x, ρ', rfl, ex, hr', hv⟩
    have hfresh : ∀ c, Mine ρ' H0 c → ¬ Own ρ H c := by
      intro c hc how
      exact not_mine B c (ex.mine c (own_lt hr how) hc)
    have hps := (pub_sound (ρ2 := ρ) (own2 := Own ρ H) (fr := !AV.noIdsL args) hr' hfresh (fun hf c hc => .inr (by rw [ex.bar]; exact ho hf c hc)) k).1 _ _ _ hp hv
    have hun : ∀ c, c < w.heap.size → w'.heap[c]? = w.heap[c]? := fun c hc => ex.keep c hc (not_mine B c)
    have e2 : Ext w ρ H w' ρ H := ⟨ex.os, ex.tape, ex.output, ex.size, fun c hc _ => hun c hc, ex.shape, fun _ _ h => h, fun _ _ h => h, rfl, fun _ _ h => ⟨h, rfl⟩, Nat.le_refl _, fun _ h => h⟩
    refine ⟨x, ρ, rfl, e2, ?_, hps.1⟩
    refine hr.mk' e2 (fun b c base hb => ?_) hr.inj fun b c base y hb hy hd => .inl ⟨hun c (hr.dom b c base hb).2, hb, hy⟩
    have := hr.dom b c base hb
    have := ex.size
    omega
  cases hn : AV.noIdsL args
  · refine key (fun _ => False) (fun c h => h.elim) ?_ (fun c h => h.elim) (by simp [hn])
    have hno : ∀ c, ¬ Own ⟨fun _ => none, fun _ => False⟩ [] c := fun c h => by
      rcases h with h | h
      · exact not_mine _ c h
      · exact h
    exact ((pub_sound (ρ2 := ⟨fun _ => none, fun _ => False⟩) (own2 := Own ⟨fun _ => none, fun _ => False⟩ []) (fr := false) hr (fun c _ => hno c) (fun _ c h => absurd h (hno c)) k).2 _ _ _ ha hx).1
  · have e := (pub_same k H).2 _ _ ha hn
    subst e
    exact key (Own ρ H) (fun c h => own_lt hr h) (VRs.plain (fun c hc => by
      rcases hc with hc | hc
      · exact absurd hc (not_mine _ c)
      · exact hc) hx hn) (fun c h => h) fun _ c h => h

theorem callF_sound (hE : Fit L E) : ∀ k, CallS L E (callF E k)
  | 0 => fun g args H v H' h => by simp [callF] at h
  | k + 1 => by
    intro g args H v H' h w ρ xs hr hg hx
    have ih := callF_sound hE k
    simp only [callF] at h
    split at h
    · rename_i p hp
      exact hE.prim g p hp args H v H' h w ρ xs hr hg hx
    · split at h
      · cases h
      · rename_i f hf
        obtain ⟨fn, hfn, m⟩ := hE.fn g f hf
        refine .inr ⟨callFunc_run hfn m _, ?_⟩
        split at h
        · obtain ⟨args', h1, h⟩ := Option.bind_eq_some_iff.1 h
          obtain ⟨r, h2, h⟩ := Option.bind_eq_some_iff.1 h
          obtain ⟨v1, h3, h4⟩ := Option.map_eq_some_iff.1 h
          injection h4 with h4 h5
          subst h4; subst h5
          exact iso_sound hE ih hfn m hr hg hx h1 h2 h3
        · exact body_sound ih hE.mixed hfn m hr hg hx h

/-- The whole: what is called from outside. -/
theorem calls_of_callF (hE : Fit L E) {k g : Nat} {args : List AV} {v : AV} {H' : Heap} {f : RF} (hf : E.fn g = some f) (hp : E.prim g = none) (h : callF E k g args H = some (v, H')) (hr : HR L w ρ H) (hg : GL L E w ρ H) {xs : List Value} (hx : VRs L w ρ (Own ρ H) args xs) :
    Calls L.P (L.fn g) xs.toArray w fun e w' => ∃ x ρ', e = .returned x ∧ Ext w ρ H w' ρ' H' ∧ HR L w' ρ' H' ∧ VR L w' ρ' (Own ρ' H') v x := by
  rcases callF_sound hE k g args H v H' h w ρ xs hr hg hx with ⟨x, w', ρ', h1, _⟩ | ⟨_, h2⟩
  · obtain ⟨fn, hfn, m⟩ := hE.fn g f hf
    rw [callFunc_run hfn m] at h1
    cases h1
  · exact h2
end
end Go.AM

/- The A-machine without fuel: what a run comes to, told by its code. -/
namespace Go.AM
set_option linter.unusedVariables false
set_option linter.unusedSimpArgs false

/-- A call's answer, from some fuel on. -/
def Ret (E : Env) (g : Nat) (args : List AV) (H : Heap) (v : AV) (H' : Heap) : Prop := ∃ k, ∀ k', k ≤ k' → callF E k' g args H = some (v, H')
abbrev Post := Out → List AV → Heap → Prop
def noCall : Nat → List AV → Heap → Option (AV × Heap) := fun _ _ _ => none

section
variable (E : Env)
def wOp (o : ROp) (s : List AV) (H : Heap) (K : AV → Heap → Prop) : Prop :=
  match o with
  | .call f args => (match f.ev E s with | .fn g cp => ∃ v H', Ret E g (args.map (RX.ev E s) ++ cp) H v H' ∧ K v H' | _ => False)
  | .fcall g args => ∃ v H', Ret E g (args.map (RX.ev E s)) H v H' ∧ K v H'
  | o => match o.run E noCall s H with | some p => K p.1 p.2 | none => False
def wOps : List RO → (List AV → Heap → Prop) → List AV → Heap → Prop
  | [], K, s, H => K s H
  | o :: r, K, s, H => (o.wanted s = true → wOp E o.op s H fun v H' => wOps r K (putA s o.dst v) H') ∧ (o.wanted s = false → wOps r K (putA s o.dst undef) H)
/-- The same, and what each operation read and turned. -/
def wTr : List RO → (List AV → Heap → List Tr → Prop) → List AV → Heap → Prop
  | [], K, s, H => K s H []
  | o :: r, K, s, H => (o.wanted s = true → wOp E o.op s H fun v H' => wTr r (fun s' H'' tr => K s' H'' (⟨o.op.foot E s H, H, H'⟩ :: tr)) (putA s o.dst v) H') ∧ (o.wanted s = false → wTr r (fun s' H'' tr => K s' H'' (⟨none, H, H⟩ :: tr)) (putA s o.dst undef) H)
def trOk (ops : List RO) (tr : List Tr) : Bool := tr.all (fun t => decide (t.before.length ≤ t.after.length)) && (drawPairs ops).all (pairOk tr)
def wRounds (B : Post → List AV → Heap → Prop) (Q : Post) : Nat → List AV → Heap → Prop
  | 0, _, _ => False
  | n + 1, s, H => B (fun out s' H' => match out with | .normal => wRounds B Q n s' H' | out => Q out s' H') s H
def W : RC → Post → List AV → Heap → Prop
  | .skip, Q, s, H => Q .normal s H
  | .region ops false, Q, s, H => wOps E ops (Q .normal) s H
  | .region ops true, Q, s, H => drawOk ops = true ∧ wTr E ops (fun s' H' tr => trOk ops tr = true ∧ Q .normal s' H') s H
  | .region2 pre x y, Q, s, H => r2Ok pre x y = true ∧ ∃ s1 H1, wTr E (r2A pre x y) (fun s' H' tr => trOk (r2A pre x y) tr = true ∧ s' = s1 ∧ H' = H1) s H ∧ wTr E (r2B pre x y) (fun s' H' tr => trOk (r2B pre x y) tr = true ∧ H' = H1) s H ∧ Q .normal s1 H1
  | .seq a b, Q, s, H => W a (fun out s' H' => match out with | .normal => W b Q s' H' | out => Q out s' H') s H
  | .cond c a b, Q, s, H => match c.ev E s with | .bool t => (t = true → W a Q s H) ∧ (t = false → W b Q s H) | _ => False
  | .block id a, Q, s, H => W a (fun out s' H' => match out with | .exit j => if j = id then Q .normal s' H' else Q (.exit j) s' H' | out => Q out s' H') s H
  | .exit id, Q, s, H => Q (.exit id) s H
  | .ret, Q, s, H => Q .ret s H
  | .loop a, Q, s, H => ∃ n, wRounds (W a) Q n s H
end

section
variable {E : Env}
theorem run_noCall {o : ROp} {s : List AV} {H : Heap} (h1 : ∀ f a, o ≠ .call f a) (h2 : ∀ g a, o ≠ .fcall g a) (cl : Nat → List AV → Heap → Option (AV × Heap)) : o.run E cl s H = o.run E noCall s H := by
  cases o <;> first | rfl | exact absurd rfl (h1 _ _) | exact absurd rfl (h2 _ _)
theorem wOp_sound {o : ROp} {s : List AV} {H : Heap} {K : AV → Heap → Prop} (h : wOp E o s H K) : ∃ v H', (∃ k, ∀ k', k ≤ k' → o.run E (callF E k') s H = some (v, H')) ∧ K v H' := by
  have other : (∀ f a, o ≠ .call f a) → (∀ g a, o ≠ .fcall g a) → (match o.run E noCall s H with | some p => K p.1 p.2 | none => False) → ∃ v H', (∃ k, ∀ k', k ≤ k' → o.run E (callF E k') s H = some (v, H')) ∧ K v H' := by
    intro h1 h2 h
    cases hr : o.run E noCall s H with
    | none => rw [hr] at h; exact h.elim
    | some p => rw [hr] at h; exact ⟨p.1, p.2, ⟨0, fun k' _ => by rw [run_noCall h1 h2, hr]⟩, h⟩
  cases o
  case call f args =>
    simp only [wOp] at h
    split at h
    · rename_i g cp hf
      obtain ⟨v, H', ⟨k, hk⟩, hK⟩ := h
      exact ⟨v, H', ⟨k, fun k' hk' => by simp only [ROp.run, hf]; exact hk k' hk'⟩, hK⟩
    · exact h.elim
  case fcall g args =>
    obtain ⟨v, H', ⟨k, hk⟩, hK⟩ := h
    exact ⟨v, H', ⟨k, fun k' hk' => hk k' hk'⟩, hK⟩
  all_goals exact other (by intros; simp) (by intros; simp) h

theorem wOps_sound : ∀ {ops : List RO} {K : List AV → Heap → Prop} {s : List AV} {H : Heap}, wOps E ops K s H → ∃ s' H', (∃ k, ∀ k', k ≤ k' → runOps E (callF E k') ops s H = some (s', H')) ∧ K s' H'
  | [], K, s, H, h => ⟨s, H, ⟨0, fun _ _ => rfl⟩, h⟩
  | o :: r, K, s, H, h => by
    cases hw : o.wanted s
    · obtain ⟨s', H', ⟨k, hk⟩, hK⟩ := wOps_sound (h.2 hw)
      exact ⟨s', H', ⟨k, fun k' hk' => by simp only [runOps, hw, Bool.false_eq_true, if_false]; exact hk k' hk'⟩, hK⟩
    · obtain ⟨v, H1, ⟨k1, h1⟩, h2⟩ := wOp_sound (h.1 hw)
      obtain ⟨s', H', ⟨k, hk⟩, hK⟩ := wOps_sound h2
      refine ⟨s', H', ⟨max k1 k, fun k' hk' => ?_⟩, hK⟩
      simp only [runOps, hw, if_true, h1 k' (by omega), Option.bind_some]
      exact hk k' (by omega)
theorem wTr_sound : ∀ {ops : List RO} {K : List AV → Heap → List Tr → Prop} {s : List AV} {H : Heap}, wTr E ops K s H → ∃ s' H' tr, (∃ k, ∀ k', k ≤ k' → runTr E (callF E k') ops s H = some (s', H', tr)) ∧ K s' H' tr
  | [], K, s, H, h => ⟨s, H, [], ⟨0, fun _ _ => rfl⟩, h⟩
  | o :: r, K, s, H, h => by
    cases hw : o.wanted s
    · obtain ⟨s', H', tr, ⟨k, hk⟩, hK⟩ := wTr_sound (h.2 hw)
      exact ⟨s', H', _, ⟨k, fun k' hk' => by simp only [runTr, hw, Bool.false_eq_true, if_false]; rw [hk k' hk']; rfl⟩, hK⟩
    · obtain ⟨v, H1, ⟨k1, h1⟩, h2⟩ := wOp_sound (h.1 hw)
      obtain ⟨s', H', tr, ⟨k, hk⟩, hK⟩ := wTr_sound h2
      refine ⟨s', H', _, ⟨max k1 k, fun k' hk' => ?_⟩, hK⟩
      simp only [runTr, hw, if_true, h1 k' (by omega), Option.bind_some]
      rw [hk k' (by omega)]; rfl

def Comes (E : Env) (rc : RC) (s : List AV) (H : Heap) (Q : Post) : Prop := ∃ out s' H', (∃ k, ∀ k', k ≤ k' → exec E (callF E k') k' rc s H = some (out, s', H')) ∧ Q out s' H'
theorem rounds_sound {a : RC} (ih : ∀ {Q : Post} {s : List AV} {H : Heap}, W E a Q s H → Comes E a s H Q) {Q : Post} : ∀ (n : Nat) {s : List AV} {H : Heap}, wRounds (W E a) Q n s H →
    ∃ out s' H', (∃ k, ∀ k', k ≤ k' → ∀ j, n ≤ j → exec.rounds j (exec E (callF E k') k' a) s H = some (out, s', H')) ∧ Q out s' H'
  | 0, s, H, h => h.elim
  | n + 1, s, H, h => by
    obtain ⟨out, s1, H1, ⟨k1, h1⟩, h2⟩ := ih h
    cases out with
    | normal =>
      obtain ⟨out, s', H', ⟨k, hk⟩, hQ⟩ := rounds_sound ih n h2
      refine ⟨out, s', H', ⟨max k1 k, fun k' hk' j hj => ?_⟩, hQ⟩
      obtain ⟨i, rfl⟩ : ∃ i, j = i + 1 := ⟨j - 1, by omega⟩
      simp only [exec.rounds, h1 k' (by omega), Option.bind_some]
      exact hk k' (by omega) i (by omega)
    | exit id =>
      refine ⟨.exit id, s1, H1, ⟨k1, fun k' hk' j hj => ?_⟩, h2⟩
      obtain ⟨i, rfl⟩ : ∃ i, j = i + 1 := ⟨j - 1, by omega⟩
      simp only [exec.rounds, h1 k' (by omega), Option.bind_some]
    | ret =>
      refine ⟨.ret, s1, H1, ⟨k1, fun k' hk' j hj => ?_⟩, h2⟩
      obtain ⟨i, rfl⟩ : ∃ i, j = i + 1 := ⟨j - 1, by omega⟩
      simp only [exec.rounds, h1 k' (by omega), Option.bind_some]

theorem W_sound : ∀ {rc : RC} {Q : Post} {s : List AV} {H : Heap}, W E rc Q s H → Comes E rc s H Q := by
  intro rc
  induction rc with
  | skip => intro Q s H h; exact ⟨.normal, s, H, ⟨0, fun _ _ => by simp [exec]⟩, h⟩
  | region ops d =>
    intro Q s H h
    cases d
    · obtain ⟨s', H', ⟨k, hk⟩, hQ⟩ := wOps_sound h
      exact ⟨.normal, s', H', ⟨k, fun k' hk' => by simp only [exec, hk k' hk']; rfl⟩, hQ⟩
    · obtain ⟨s', H', tr, ⟨k, hk⟩, h1, hQ⟩ := wTr_sound h.2
      refine ⟨.normal, s', H', ⟨k, fun k' hk' => ?_⟩, hQ⟩
      unfold trOk at h1
      simp only [exec, h.1, if_true, hk k' hk', Option.bind_some, h1]
  | region2 pre x y =>
    intro Q s H h
    obtain ⟨h0, s1, H1, hA, hB, hQ⟩ := h
    obtain ⟨s', H', tr, ⟨k, hk⟩, h1, rfl, rfl⟩ := wTr_sound hA
    obtain ⟨s2, H2, tr2, ⟨k2, hk2⟩, h2, rfl⟩ := wTr_sound hB
    refine ⟨.normal, s', H2, ⟨max k k2, fun k' hk' => ?_⟩, hQ⟩
    unfold trOk at h1 h2
    simp only [exec, h0, if_true, hk k' (by omega), hk2 k' (by omega), Option.bind_some, h1, h2, decide_true, Bool.and_self]
  | seq a b iha ihb =>
    intro Q s H h
    obtain ⟨out, s1, H1, ⟨k1, h1⟩, h2⟩ := iha h
    cases out with
    | normal =>
      obtain ⟨out, s', H', ⟨k, hk⟩, hQ⟩ := ihb h2
      refine ⟨out, s', H', ⟨max k1 k, fun k' hk' => ?_⟩, hQ⟩
      simp only [exec, h1 k' (by omega), Option.bind_some]
      exact hk k' (by omega)
    | exit id => exact ⟨.exit id, s1, H1, ⟨k1, fun k' hk' => by simp only [exec, h1 k' hk', Option.bind_some]⟩, h2⟩
    | ret => exact ⟨.ret, s1, H1, ⟨k1, fun k' hk' => by simp only [exec, h1 k' hk', Option.bind_some]⟩, h2⟩
  | cond c a b iha ihb =>
    intro Q s H h
    simp only [W] at h
    split at h
    · rename_i t hc
      cases t
      · obtain ⟨out, s', H', ⟨k, hk⟩, hQ⟩ := ihb (h.2 rfl)
        exact ⟨out, s', H', ⟨k, fun k' hk' => by simp only [exec, hc]; exact hk k' hk'⟩, hQ⟩
      · obtain ⟨out, s', H', ⟨k, hk⟩, hQ⟩ := iha (h.1 rfl)
        exact ⟨out, s', H', ⟨k, fun k' hk' => by simp only [exec, hc]; exact hk k' hk'⟩, hQ⟩
    · exact h.elim
  | block id a ih =>
    intro Q s H h
    obtain ⟨out, s1, H1, ⟨k1, h1⟩, h2⟩ := ih h
    cases out with
    | normal => exact ⟨.normal, s1, H1, ⟨k1, fun k' hk' => by simp only [exec, h1 k' hk']; rfl⟩, h2⟩
    | exit j =>
      simp only at h2
      split at h2
      · rename_i e
        exact ⟨.normal, s1, H1, ⟨k1, fun k' hk' => by simp only [exec, h1 k' hk', Option.map_some, e, if_true]⟩, h2⟩
      · rename_i e
        exact ⟨.exit j, s1, H1, ⟨k1, fun k' hk' => by simp only [exec, h1 k' hk', Option.map_some, if_neg e]⟩, h2⟩
    | ret => exact ⟨.ret, s1, H1, ⟨k1, fun k' hk' => by simp only [exec, h1 k' hk']; rfl⟩, h2⟩
  | exit id => intro Q s H h; exact ⟨.exit id, s, H, ⟨0, fun _ _ => by simp [exec]⟩, h⟩
  | ret => intro Q s H h; exact ⟨.ret, s, H, ⟨0, fun _ _ => by simp [exec]⟩, h⟩
  | loop a ih =>
    intro Q s H h
    obtain ⟨n, h⟩ := h
    obtain ⟨out, s', H', ⟨k, hk⟩, hQ⟩ := rounds_sound ih n h
    exact ⟨out, s', H', ⟨max k n, fun k' hk' => by simp only [exec]; exact hk k' (by omega) k' (by omega)⟩, hQ⟩

/-! ### Rules -/
theorem wOp_mono {o : ROp} {s : List AV} {H : Heap} {K K' : AV → Heap → Prop} (hK : ∀ v H, K v H → K' v H) (h : wOp E o s H K) : wOp E o s H K' := by
  cases o <;> simp only [wOp] at h ⊢
  case call f args =>
    split at h
    · obtain ⟨v, H', h1, h2⟩ := h; exact ⟨v, H', h1, hK _ _ h2⟩
    · exact h
  case fcall g args => obtain ⟨v, H', h1, h2⟩ := h; exact ⟨v, H', h1, hK _ _ h2⟩
  all_goals
    split at h
    · exact hK _ _ h
    · exact h
theorem wOps_mono : ∀ {ops : List RO} {K K' : List AV → Heap → Prop} {s : List AV} {H : Heap}, (∀ s H, K s H → K' s H) → wOps E ops K s H → wOps E ops K' s H
  | [], _, _, _, _, hK, h => hK _ _ h
  | _ :: _, _, _, _, _, hK, h => ⟨fun hw => wOp_mono (fun _ _ h => wOps_mono hK h) (h.1 hw), fun hw => wOps_mono hK (h.2 hw)⟩
theorem wTr_mono : ∀ {ops : List RO} {K K' : List AV → Heap → List Tr → Prop} {s : List AV} {H : Heap}, (∀ s H t, K s H t → K' s H t) → wTr E ops K s H → wTr E ops K' s H
  | [], _, _, _, _, hK, h => hK _ _ _ h
  | _ :: _, _, _, _, _, hK, h => ⟨fun hw => wOp_mono (fun _ _ h => wTr_mono (fun _ _ _ => hK _ _ _) h) (h.1 hw), fun hw => wTr_mono (fun _ _ _ => hK _ _ _) (h.2 hw)⟩
theorem W_mono : ∀ {rc : RC} {Q Q' : Post} {s : List AV} {H : Heap}, (∀ o s H, Q o s H → Q' o s H) → W E rc Q s H → W E rc Q' s H := by
  intro rc
  induction rc with
  | skip => intro Q Q' s H hQ h; exact hQ _ _ _ h
  | region ops d =>
    intro Q Q' s H hQ h
    cases d
    · exact wOps_mono (fun _ _ => hQ _ _ _) h
    · exact ⟨h.1, wTr_mono (fun _ _ _ h => ⟨h.1, hQ _ _ _ h.2⟩) h.2⟩
  | region2 pre x y =>
    intro Q Q' s H hQ h
    obtain ⟨h0, s1, H1, hA, hB, h⟩ := h
    exact ⟨h0, s1, H1, hA, hB, hQ _ _ _ h⟩
  | seq a b iha ihb =>
    intro Q Q' s H hQ h
    exact iha (fun o s H h => by cases o with
      | normal => exact ihb hQ h
      | exit id => exact hQ _ _ _ h
      | ret => exact hQ _ _ _ h) h
  | cond c a b iha ihb =>
    intro Q Q' s H hQ h
    simp only [W] at h ⊢
    split at h
    · exact ⟨fun e => iha hQ (h.1 e), fun e => ihb hQ (h.2 e)⟩
    · exact h
  | block id a ih =>
    intro Q Q' s H hQ h
    exact ih (fun o s H h => by cases o with
      | normal => exact hQ _ _ _ h
      | exit j =>
        simp only at h ⊢
        split
        · rename_i e; rw [if_pos e] at h; exact hQ _ _ _ h
        · rename_i e; rw [if_neg e] at h; exact hQ _ _ _ h
      | ret => exact hQ _ _ _ h) h
  | exit id => intro Q Q' s H hQ h; exact hQ _ _ _ h
  | ret => intro Q Q' s H hQ h; exact hQ _ _ _ h
  | loop a ih =>
    intro Q Q' s H hQ h
    obtain ⟨n, h⟩ := h
    refine ⟨n, ?_⟩
    induction n generalizing s H with
    | zero => exact h.elim
    | succ n ihn =>
      exact ih (fun o s H h => by cases o with
        | normal => exact ihn h
        | exit id => exact hQ _ _ _ h
        | ret => exact hQ _ _ _ h) h
theorem W_loop {a : RC} {Q : Post} {s : List AV} {H : Heap} (I : Nat → List AV → Heap → Prop) (n : Nat) (h0 : I n s H)
    (hs : ∀ n s H, I n s H → W E a (fun out s' H' => match out with | .normal => ∃ m, m < n ∧ I m s' H' | out => Q out s' H') s H) : W E (.loop a) Q s H := by
  refine ⟨n + 1, ?_⟩
  have key : ∀ N n s H, n < N → I n s H → wRounds (W E a) Q N s H := by
    intro N
    induction N with
    | zero => intro n s H hn; omega
    | succ N ih =>
      intro n s H hn h
      exact W_mono (fun o s H h => by cases o with
        | normal => obtain ⟨m, hm, h⟩ := h; exact ih m s H (by omega) h
        | exit id => exact h
        | ret => exact h) (hs n s H h)
  exact key (n + 1) n s H (by omega) h0

/-- A function that turns the caller's blocks. -/
theorem Ret.open {g : Nat} {f : RF} {args : List AV} {H : Heap} (hp : E.prim g = none) (hf : E.fn g = some f) (hi : f.iso = false) {v : AV} {H' : Heap}
    (h : W E f.body (fun out s' H1 => (∀ id, out ≠ .exit id) ∧ (resOf s' H1 f.res).map packA = some v ∧ H1 = H') (args ++ List.replicate (f.nt - args.length) undef) H) : Ret E g args H v H' := by
  obtain ⟨out, s', H1, ⟨k, hk⟩, hno, hr, rfl⟩ := W_sound h
  refine ⟨k + 1, fun k' hk' => ?_⟩
  obtain ⟨i, rfl⟩ : ∃ i, k' = i + 1 := ⟨k' - 1, by omega⟩
  obtain ⟨vs, h1, h2⟩ := Option.map_eq_some_iff.1 hr
  subst h2
  simp only [callF, hp, hf, hi, Bool.false_eq_true, if_false, bodyF, hk i (by omega), Option.bind_some]
  cases out with
  | exit id => exact absurd rfl (hno id)
  | normal => simp only [h1, Option.map_some]
  | ret => simp only [h1, Option.map_some]
def Pub (fr : Bool) (H : Heap) (v v' : AV) : Prop := ∃ k, ∀ k', k ≤ k' → pub fr k' H v = some v'
def PubL (H : Heap) (vs vs' : List AV) : Prop := ∃ k, ∀ k', k ≤ k' → pubL false k' H vs = some vs'
theorem Ret.iso {g : Nat} {f : RF} {args args' : List AV} {H : Heap} (hp : E.prim g = none) (hf : E.fn g = some f) (hi : f.iso = true) (ha : PubL H args args') {v : AV}
    (h : W E f.body (fun out s' H1 => (∀ id, out ≠ .exit id) ∧ ∃ v0, (resOf s' H1 f.res).map packA = some v0 ∧ Pub (!AV.noIdsL args) H1 v0 v) (args' ++ List.replicate (f.nt - args'.length) undef) []) : Ret E g args H v H := by
  obtain ⟨out, s', H1, ⟨k, hk⟩, hno, v0, hr, ⟨k2, h2⟩⟩ := W_sound h
  obtain ⟨k1, h1⟩ := ha
  refine ⟨max k (max k1 k2) + 1, fun k' hk' => ?_⟩
  obtain ⟨i, rfl⟩ : ∃ i, k' = i + 1 := ⟨k' - 1, by omega⟩
  obtain ⟨vs, h3, h4⟩ := Option.map_eq_some_iff.1 hr
  subst h4
  simp only [callF, hp, hf, hi, if_true, h1 i (by omega), Option.bind_some, bodyF, hk i (by omega)]
  cases out with
  | exit id => exact absurd rfl (hno id)
  | normal => simp only [h3, Option.map_some, Option.bind_some, h2 i (by omega)]
  | ret => simp only [h3, Option.map_some, Option.bind_some, h2 i (by omega)]

/-! ### Made plain -/
theorem pub_plain : ∀ (n : Nat) (H : Heap), (∀ v, AV.noIds v = true → SizeOf.sizeOf v ≤ n → ∃ k, ∀ k', k ≤ k' → pub false k' H v = some v) ∧ (∀ vs, AV.noIdsL vs = true → SizeOf.sizeOf vs ≤ n → ∃ k, ∀ k', k ≤ k' → pubL false k' H vs = some vs)
  | 0, H => ⟨fun v h hs => by cases v <;> simp at hs <;> omega, fun vs h hs => by cases vs <;> simp at hs <;> omega⟩
  | n + 1, H => by
    obtain ⟨ih1, ih2⟩ := pub_plain n H
    have up : ∀ {P : Nat → Prop}, (∃ k, ∀ k', k ≤ k' → P (k' + 1)) → ∃ k, ∀ k', k ≤ k' → P k' := by
      rintro P ⟨k, hk⟩
      refine ⟨k + 1, fun k' hk' => ?_⟩
      obtain ⟨i, rfl⟩ : ∃ i, k' = i + 1 := ⟨k' - 1, by omega⟩
      exact hk i (by omega)
    constructor
    · intro v hn hs
      apply up (P := fun k => pub false k H v = some v)
      cases v <;> simp only [AV.noIds, Bool.false_eq_true] at hn <;> try (refine ⟨0, fun _ _ => ?_⟩; simp [pub]; done)
      case dptr cs => exact ⟨0, fun _ _ => by simp [pub, hn]⟩
      case data cs => exact ⟨0, fun _ _ => by simp [pub, hn]⟩
      case dmap ks vs => exact ⟨0, fun _ _ => by simp only [pub, hn]; simp⟩
      case fn g cp => obtain ⟨k, hk⟩ := ih2 cp hn (by simp at hs; omega); exact ⟨k, fun k' hk' => by simp [pub, hk k' hk']⟩
      case iface t v => obtain ⟨k, hk⟩ := ih1 v hn (by simp at hs; omega); exact ⟨k, fun k' hk' => by simp [pub, hk k' hk']⟩
      case agg cs => obtain ⟨k, hk⟩ := ih2 cs hn (by simp at hs; omega); exact ⟨k, fun k' hk' => by simp [pub, hk k' hk']⟩
      case tup cs => obtain ⟨k, hk⟩ := ih2 cs hn (by simp at hs; omega); exact ⟨k, fun k' hk' => by simp [pub, hk k' hk']⟩
    · intro vs hn hs
      apply up (P := fun k => pubL false k H vs = some vs)
      cases vs with
      | nil => exact ⟨0, fun _ _ => by simp [pubL]⟩
      | cons v r =>
        simp only [AV.noIdsL, Bool.and_eq_true] at hn
        obtain ⟨k1, h1⟩ := ih1 v hn.1 (by simp at hs; omega)
        obtain ⟨k2, h2⟩ := ih2 r hn.2 (by simp at hs; omega)
        exact ⟨max k1 k2, fun k' hk' => by simp [pubL, h1 k' (by omega), h2 k' (by omega)]⟩
theorem Pub.plain {H : Heap} {v : AV} (h : AV.noIds v = true) : Pub false H v v := (pub_plain _ H).1 v h (Nat.le_refl _)
theorem PubL.plain {H : Heap} {vs : List AV} (h : AV.noIdsL vs = true) : PubL H vs vs := (pub_plain _ H).2 vs h (Nat.le_refl _)
end
end Go.AM

/- What a piece of code leaves alone; loops by what they write. -/
namespace Go.AM
set_option linter.unusedVariables false
set_option linter.unusedSimpArgs false

def opsDst : List RO → List Nat
  | [] => []
  | o :: r => match o.dst with | some d => d :: opsDst r | none => opsDst r
def writes : RC → List Nat
  | .region ops _ => opsDst ops
  | .region2 pre x y => opsDst (r2A pre x y)
  | .seq a b => writes a ++ writes b
  | .cond _ a b => writes a ++ writes b
  | .block _ a => writes a
  | .loop a => writes a
  | _ => []
structure Fr (ws : List Nat) (s0 s : List AV) : Prop where
  len : s.length = s0.length
  get : ∀ i, i ∉ ws → s.getD i undef = s0.getD i undef
theorem Fr.refl (ws : List Nat) (s : List AV) : Fr ws s s := ⟨rfl, fun _ _ => rfl⟩
theorem Fr.put {ws : List Nat} {s0 s : List AV} (h : Fr ws s0 s) {d : Option Nat} (hd : ∀ x, d = some x → x ∈ ws) (v : AV) : Fr ws s0 (putA s d v) := by
  cases d with
  | none => exact h
  | some d =>
    refine ⟨by simp [putA, h.len], fun i hi => ?_⟩
    have : d ≠ i := fun e => hi (e ▸ hd d rfl)
    rw [← h.get i hi]
    simp [putA, List.getD_eq_getElem?_getD, List.getElem?_set_ne this]
section
variable {E : Env} {ws : List Nat} {s0 : List AV}
theorem wOps_fr : ∀ {ops : List RO} {K : List AV → Heap → Prop} {s : List AV} {H : Heap}, (∀ d ∈ opsDst ops, d ∈ ws) → Fr ws s0 s → wOps E ops K s H → wOps E ops (fun s' H' => K s' H' ∧ Fr ws s0 s') s H
  | [], K, s, H, _, hf, h => ⟨h, hf⟩
  | o :: r, K, s, H, hd, hf, h => by
    have h1 : ∀ x, o.dst = some x → x ∈ ws := fun x hx => hd x (by simp [opsDst, hx])
    have h2 : ∀ d ∈ opsDst r, d ∈ ws := fun d hm => hd d (by unfold opsDst; split <;> simp [hm])
    exact ⟨fun hw => wOp_mono (fun v H h => wOps_fr h2 (hf.put h1 v) h) (h.1 hw), fun hw => wOps_fr h2 (hf.put h1 _) (h.2 hw)⟩
theorem wTr_fr : ∀ {ops : List RO} {K : List AV → Heap → List Tr → Prop} {s : List AV} {H : Heap}, (∀ d ∈ opsDst ops, d ∈ ws) → Fr ws s0 s → wTr E ops K s H → wTr E ops (fun s' H' tr => K s' H' tr ∧ Fr ws s0 s') s H
  | [], K, s, H, _, hf, h => ⟨h, hf⟩
  | o :: r, K, s, H, hd, hf, h => by
    have h1 : ∀ x, o.dst = some x → x ∈ ws := fun x hx => hd x (by simp [opsDst, hx])
    have h2 : ∀ d ∈ opsDst r, d ∈ ws := fun d hm => hd d (by unfold opsDst; split <;> simp [hm])
    exact ⟨fun hw => wOp_mono (fun v H h => wTr_fr h2 (hf.put h1 v) h) (h.1 hw), fun hw => wTr_fr h2 (hf.put h1 _) (h.2 hw)⟩
theorem W_fr : ∀ {rc : RC} {Q : Post} {s : List AV} {H : Heap}, (∀ d ∈ writes rc, d ∈ ws) → Fr ws s0 s → W E rc Q s H → W E rc (fun out s' H' => Q out s' H' ∧ Fr ws s0 s') s H := by
  intro rc
  induction rc with
  | skip => intro Q s H _ hf h; exact ⟨h, hf⟩
  | exit id => intro Q s H _ hf h; exact ⟨h, hf⟩
  | ret => intro Q s H _ hf h; exact ⟨h, hf⟩
  | region ops d =>
    intro Q s H hd hf h
    cases d
    · exact wOps_fr hd hf h
    · exact ⟨h.1, wTr_mono (fun _ _ _ h => ⟨h.1.1, h.1.2, h.2⟩) (wTr_fr hd hf h.2)⟩
  | region2 pre x y =>
    intro Q s H hd hf h
    obtain ⟨h0, s1, H1, hA, hB, hQ⟩ := h
    obtain ⟨s2, H2, tr, _, ⟨_, rfl, rfl⟩, hfr⟩ := wTr_sound (wTr_fr hd hf hA)
    exact ⟨h0, _, _, hA, hB, hQ, hfr⟩
  | seq a b iha ihb =>
    intro Q s H hd hf h
    simp only [writes, List.mem_append] at hd
    simp only [W] at h ⊢
    refine W_mono (fun o s H h => ?_) (iha (fun d h => hd d (.inl h)) hf h)
    cases o with
    | normal => exact ihb (fun d h => hd d (.inr h)) h.2 h.1
    | exit id => exact h
    | ret => exact h
  | cond c a b iha ihb =>
    intro Q s H hd hf h
    simp only [writes, List.mem_append] at hd
    simp only [W] at h ⊢
    split at h
    · exact ⟨fun e => iha (fun d h => hd d (.inl h)) hf (h.1 e), fun e => ihb (fun d h => hd d (.inr h)) hf (h.2 e)⟩
    · exact h
  | block id a ih =>
    intro Q s H hd hf h
    simp only [W] at h ⊢
    refine W_mono (fun o s H h => ?_) (ih (fun d h => hd d h) hf h)
    cases o with
    | normal => exact h
    | exit j =>
      simp only at h ⊢
      split
      · rename_i e; rw [if_pos e] at h; exact h
      · rename_i e; rw [if_neg e] at h; exact h
    | ret => exact h
  | loop a ih =>
    intro Q s H hd hf h
    obtain ⟨n, h⟩ := h
    refine ⟨n, ?_⟩
    induction n generalizing s H with
    | zero => exact h.elim
    | succ n ihn =>
      refine W_mono (fun o s H h => ?_) (ih (fun d h => hd d h) hf h)
      cases o with
      | normal => exact ihn h.2 h.1
      | exit id => exact h
      | ret => exact h

def havoc (f : Nat → AV) : List Nat → List AV → List AV
  | [], s => s
  | w :: r, s => havoc f r (s.set w (f w))
theorem havoc_length (f : Nat → AV) : ∀ (ws : List Nat) (s : List AV), (havoc f ws s).length = s.length
  | [], s => rfl
  | w :: r, s => by rw [havoc, havoc_length f r]; simp
theorem havoc_get (f : Nat → AV) (i : Nat) : ∀ (ws : List Nat) (s : List AV), i < s.length → (havoc f ws s).getD i undef = if i ∈ ws then f i else s.getD i undef
  | [], s, _ => by simp [havoc]
  | w :: r, s, h => by
    rw [havoc, havoc_get f i r _ (by simpa using h)]
    by_cases e : i ∈ r
    · simp [e]
    · by_cases e' : i = w
      · subst e'; simp [e, List.getD_eq_getElem?_getD, h]
      · have : w ≠ i := fun x => e' x.symm
        simp [e, e', List.getD_eq_getElem?_getD, List.getElem?_set_ne this]
theorem havoc_eq {s s' : List AV} (h : Fr ws s s') : havoc (fun i => s'.getD i undef) ws s = s' := by
  refine List.ext_getElem (by rw [havoc_length, h.len]) fun i h1 h2 => ?_
  have hi : i < s.length := by rw [← h.len]; exact h2
  have := havoc_get (fun i => s'.getD i undef) i ws s hi
  rw [List.getD_eq_getElem?_getD, List.getElem?_eq_getElem h1, Option.getD_some] at this
  rw [this]
  have e : s'.getD i undef = s'[i] := by rw [List.getD_eq_getElem?_getD, List.getElem?_eq_getElem h2]; rfl
  split
  · exact e
  · rename_i hn; rw [← h.get i hn]; exact e

/-- A loop, by an invariant on the slots that it writes. -/
def loopP (B : Post → List AV → Heap → Prop) (ws : List Nat) (Q : Post) (s : List AV) (H : Heap) : Prop :=
  ∃ I : Nat → (Nat → AV) → Heap → Prop, (∃ n, I n (fun i => s.getD i undef) H) ∧
    ∀ n f H, I n f H → B (fun out s' H' => match out with | .normal => ∃ m, m < n ∧ I m (fun i => s'.getD i undef) H' | out => Q out s' H') (havoc f ws s) H
theorem loopP_sound {a : RC} {Q : Post} {s : List AV} {H : Heap} (h : loopP (W E a) (writes a) Q s H) : W E (.loop a) Q s H := by
  obtain ⟨I, ⟨n, h0⟩, hs⟩ := h
  refine W_loop (fun n s' H' => Fr (writes a) s s' ∧ I n (fun i => s'.getD i undef) H') n ⟨Fr.refl _ _, h0⟩ fun n s' H' ⟨hf, hI⟩ => ?_
  have := hs n _ H' hI
  rw [havoc_eq hf] at this
  refine W_mono (fun o s1 H1 h => ?_) (W_fr (ws := writes a) (s0 := s) (fun d h => h) hf this)
  cases o with
  | normal => obtain ⟨⟨m, hm, hI⟩, hf⟩ := h; exact ⟨m, hm, hf, hI⟩
  | exit id => exact h.1
  | ret => exact h.1
end
end Go.AM

/- The A-machine's code, told by combinators: what a printed piece of a function says. -/
namespace Go.AM
set_option linter.unusedVariables false
set_option linter.unusedSimpArgs false

/-- It is there, and so on. -/
def getP {α : Type} (x : Option α) (K : α → Prop) : Prop := ∃ v, x = some v ∧ K v
def boxP (v : AV) (H : Heap) (K : AV → Heap → Prop) : Prop := v.cells.all AV.isCell = true ∧ K (.ptr H.length 0) (H ++ [.cells v.cells])
def sliceP (sh : Option Nat) (tag n : Nat) (zero : List AV) (ps : List (Nat × Nat × AV)) (H : Heap) (K : AV → Heap → Prop) : Prop :=
  ∃ cs, fillA (repC zero n) ps = some cs ∧ K (.sl H.length 0 n sh) (H ++ [.arr (szOf sh) tag 0 cs])
def mapP (H : Heap) (K : AV → Heap → Prop) : Prop := K (.map H.length) (H ++ [.map [] []])
def get2 (x : Option (AV × Heap)) (K : AV → Heap → Prop) : Prop := ∃ v H, x = some (v, H) ∧ K v H
def getH (x : Option Heap) (K : Heap → Prop) : Prop := ∃ H, x = some H ∧ K H
def callP (E : Env) (g : Nat) (args : List AV) (H : Heap) (K : AV → Heap → Prop) : Prop := ∃ v H', Ret E g args H v H' ∧ K v H'
def callV (E : Env) (f : AV) (args : List AV) (H : Heap) (K : AV → Heap → Prop) : Prop := ∃ g cp, f = .fn g cp ∧ ∃ v H', Ret E g (args ++ cp) H v H' ∧ K v H'
def splitB (v : AV) (A B : Prop) : Prop :=
  match v with
  | .bool true => A
  | .bool false => B
  | v => (v = .bool true ∨ v = .bool false) ∧ (v = .bool true → A) ∧ (v = .bool false → B)
theorem splitB_ok {v : AV} {A B : Prop} (h : splitB v A B) : (v = .bool true ∧ A) ∨ (v = .bool false ∧ B) := by
  unfold splitB at h
  split at h
  · exact .inl ⟨rfl, h⟩
  · exact .inr ⟨rfl, h⟩
  · obtain ⟨h1 | h1, h2, h3⟩ := h
    · exact .inl ⟨h1, h2 h1⟩
    · exact .inr ⟨h1, h3 h1⟩
theorem splitB_bool {b : Bool} {A B : Prop} (h1 : b = true → A) (h2 : b = false → B) : splitB (.bool b) A B := by cases b <;> simp_all [splitB]

def nilA : AV → Option AV
  | .ptr b o => some (.ptr b o)
  | .dptr cs => some (.dptr cs)
  | .fn g cp => some (.fn g cp)
  | _ => none
def fieldA (off : Nat) (sh : Option Nat) : AV → Option AV
  | .agg cs => mkv sh (cs.drop off)
  | _ => none
def extA (i : Nat) : AV → Option AV
  | .tup vs => vs[i]?
  | _ => none
def toIntA (k : IntKind) : AV → Option AV
  | .int _ n => some (.int k (k.wrap n))
  | _ => none
def appA (sh : Option Nat) (tag bytes : Nat) (x y : AV) (H : Heap) : Option (AV × Heap) :=
  match elemsOf (szOf sh) H y with
  | some (ys, ny) => appendA sh tag bytes x ys ny H
  | none => none
def appzA (sh : Option Nat) (tag bytes : Nat) (zero : List AV) (x n : AV) (H : Heap) : Option (AV × Heap) :=
  match evNat n with
  | some ny => if zero.length = szOf sh then appendA sh tag bytes x (repC zero ny) ny H else none
  | none => none
def capA : AV → Option AV
  | .nils => some (.int .i64 0)
  | _ => none
def minA : AV → AV → Option AV
  | .int k a, .int _ b => some (.int k (if b < a then b else a))
  | _, _ => none
def maxA : AV → AV → Option AV
  | .int k a, .int _ b => some (.int k (if a < b then b else a))
  | _, _ => none

section
variable (E : Env)
def xOp (o : ROp) (s : List AV) (H : Heap) (K : AV → Heap → Prop) : Prop :=
  match o with
  | .mov x => K (x.ev E s) H
  | .pick c a b => splitB (c.ev E s) (K (a.ev E s) H) (K (b.ev E s) H)
  | .box v => boxP (v.ev E s) H K
  | .build zero ps => getP (fillA zero (evParts E s ps)) fun cs => K (.agg cs) H
  | .bslice sh tag n zero ps => sliceP sh tag n zero (evParts E s ps) H K
  | .load sh a => getP (loadA sh (a.ev E s) H) fun v => K v H
  | .store n a v => getH (storeA n (a.ev E s) (v.ev E s) H) fun H => K undef H
  | .bin op x y => getP (binop op (x.ev E s) (y.ev E s)) fun v => K v H
  | .eq k neg x y => getP (eqA k neg (x.ev E s) (y.ev E s)) fun v => K v H
  | .un op x => getP (unop op (x.ev E s)) fun v => K v H
  | .toStr bs x => getP (toStrA H bs (x.ev E s)) fun v => K v H
  | .mkfn g cp => K (.fn g (cp.map (RX.ev E s))) H
  | .mkmap => mapP H K
  | .slice sz x lo hi mx => getP (sliceA sz (x.ev E s) (lo.map (RX.ev E s)) (hi.map (RX.ev E s)) (mx.map (RX.ev E s))) fun v => K v H
  | .faddr off x => getP (faddrA off (x.ev E s)) fun v => K v H
  | .iaddr sh x i => getP (iaddrA sh (x.ev E s) (i.ev E s)) fun v => K v H
  | .aaddr n sh x i => getP (aaddrA n sh (x.ev E s) (evNat (i.ev E s))) fun v => K v H
  | .index n sh x i => getP (indexA n sh (x.ev E s) (i.ev E s)) fun v => K v H
  | .lookup kk zero m k ok => getP (lookupA kk zero (m.ev E s) (k.ev E s) ok H) fun v => K v H
  | .mapupd kk m k v => getH (mapupdA kk (m.ev E s) (k.ev E s) (v.ev E s) H) fun H => K undef H
  | .mapent kk zero m k => get2 (mapentA kk zero (m.ev E s) (k.ev E s) H) K
  | .entst m st v => getH (entstA (m.ev E s) (st.ev E s) (v.ev E s) H) fun H => K undef H
  | .mkif t x => K (.iface t (x.ev E s)) H
  | .call f args => callV E (f.ev E s) (args.map (RX.ev E s)) H K
  | .fcall g args => callP E g (args.map (RX.ev E s)) H K
  | .len lk x => getP (lenA H lk (x.ev E s)) fun v => K v H
  | .clear zero x => get2 (clearA zero (x.ev E s) H) K
  | .nilchk x => getP (nilA (x.ev E s)) fun v => K v H
  | .field off sh x => getP (fieldA off sh (x.ev E s)) fun v => K v H
  | .ext x i => getP (extA i (x.ev E s)) fun v => K v H
  | .toInt k x => getP (toIntA k (x.ev E s)) fun v => K v H
  | .app sh tag bytes x y => get2 (appA sh tag bytes (x.ev E s) (y.ev E s) H) K
  | .appz sh tag bytes zero x n => get2 (appzA sh tag bytes zero (x.ev E s) (n.ev E s) H) K
  | .cap x => getP (capA (x.ev E s)) fun v => K v H
  | .min x y => getP (minA (x.ev E s) (y.ev E s)) fun v => K v H
  | .max x y => getP (maxA (x.ev E s) (y.ev E s)) fun v => K v H
  | .sdata x => getP (sdataA (x.ev E s)) fun v => K v H
  | .ustr q n => get2 (ustrA (q.ev E s) (evNat (n.ev E s)) H) K
  | o => get2 (o.run E noCall s H) K
/-- The slots, each by itself (so that a reckoning of them goes fast). -/
def norm {α : Type} : List α → (List α → Prop) → Prop
  | [], K => K []
  | v :: r, K => norm r fun r' => K (v :: r')
theorem norm_eq {α : Type} : ∀ (s : List α) (K : List α → Prop), norm s K = K s
  | [], K => rfl
  | v :: r, K => by rw [norm, norm_eq r]
/-- 'us': the slots of this region that hold nothing, as what was to fill them was not asked for. -/
def isIn (t : Nat) : List Nat → Bool
  | [] => false
  | u :: r => cond (Nat.beq u t) true (isIn t r)
def rem : Option Nat → List Nat → List Nat
  | _, [] => []
  | none, u :: r => u :: rem none r
  | some d, u :: r => cond (Nat.beq u d) (rem (some d) r) (u :: rem (some d) r)
def xOps : List RO → List Nat → (List AV → Heap → Prop) → List AV → Heap → Prop
  | [], us, K, s, H => K s H
  | o :: r, us, K, s0, H => norm s0 fun s =>
    match o.guard with
    | none => xOp E o.op s H fun v H' => xOps r (rem o.dst us) K (putA s o.dst v) H'
    | some (t, w) => match isIn t us with
      | true => xOps r (o.dst.toList ++ us) K (putA s o.dst undef) H
      | false => match w with
        | true => splitB (s.getD t undef) (xOp E o.op (s.set t (.bool true)) H fun v H' => xOps r (rem o.dst us) K (putA (s.set t (.bool true)) o.dst v) H') (xOps r (o.dst.toList ++ us) K (putA (s.set t (.bool false)) o.dst undef) H)
        | false => splitB (s.getD t undef) (xOps r (o.dst.toList ++ us) K (putA (s.set t (.bool true)) o.dst undef) H) (xOp E o.op (s.set t (.bool false)) H fun v H' => xOps r (rem o.dst us) K (putA (s.set t (.bool false)) o.dst v) H')
def xTr : List RO → List Nat → (List AV → Heap → List Tr → Prop) → List AV → Heap → Prop
  | [], us, K, s, H => K s H []
  | o :: r, us, K, s, H =>
    match o.guard with
    | none => xOp E o.op s H fun v H' => xTr r (rem o.dst us) (fun s' H'' tr => K s' H'' (⟨o.op.foot E s H, H, H'⟩ :: tr)) (putA s o.dst v) H'
    | some (t, w) => match isIn t us with
      | true => xTr r (o.dst.toList ++ us) (fun s' H'' tr => K s' H'' (⟨none, H, H⟩ :: tr)) (putA s o.dst undef) H
      | false => match w with
        | true => splitB (s.getD t undef) (xOp E o.op (s.set t (.bool true)) H fun v H' => xTr r (rem o.dst us) (fun s' H'' tr => K s' H'' (⟨o.op.foot E (s.set t (.bool true)) H, H, H'⟩ :: tr)) (putA (s.set t (.bool true)) o.dst v) H') (xTr r (o.dst.toList ++ us) (fun s' H'' tr => K s' H'' (⟨none, H, H⟩ :: tr)) (putA (s.set t (.bool false)) o.dst undef) H)
        | false => splitB (s.getD t undef) (xTr r (o.dst.toList ++ us) (fun s' H'' tr => K s' H'' (⟨none, H, H⟩ :: tr)) (putA (s.set t (.bool true)) o.dst undef) H) (xOp E o.op (s.set t (.bool false)) H fun v H' => xTr r (rem o.dst us) (fun s' H'' tr => K s' H'' (⟨o.op.foot E (s.set t (.bool false)) H, H, H'⟩ :: tr)) (putA (s.set t (.bool false)) o.dst v) H')
def X : RC → Post → List AV → Heap → Prop
  | .skip, Q, s, H => Q .normal s H
  | .region ops false, Q, s, H => xOps E ops [] (Q .normal) s H
  | .region ops true, Q, s, H => drawOk ops = true ∧ xTr E ops [] (fun s' H' tr => trOk ops tr = true ∧ Q .normal s' H') s H
  | .region2 pre x y, Q, s, H => r2Ok pre x y = true ∧ ∃ s1 H1, xTr E (r2A pre x y) [] (fun s' H' tr => trOk (r2A pre x y) tr = true ∧ s' = s1 ∧ H' = H1) s H ∧ xTr E (r2B pre x y) [] (fun s' H' tr => trOk (r2B pre x y) tr = true ∧ H' = H1) s H ∧ Q .normal s1 H1
  | .seq a b, Q, s, H => X a (fun out s' H' => match out with | .normal => X b Q s' H' | out => Q out s' H') s H
  | .cond c a b, Q, s, H => (match c with
    | .t n => splitB (s.getD n undef) (X a Q (s.set n (.bool true)) H) (X b Q (s.set n (.bool false)) H)
    | c => splitB (c.ev E s) (X a Q s H) (X b Q s H))
  | .block id a, Q, s, H => X a (fun out s' H' => match out with | .exit j => (match Nat.beq j id with | true => Q .normal s' H' | false => Q (.exit j) s' H') | out => Q out s' H') s H
  | .exit id, Q, s, H => Q (.exit id) s H
  | .ret, Q, s, H => Q .ret s H
  | .loop a, Q, s, H => loopP (X a) (writes a) Q s H
end

section
variable {E : Env}
def wGet (x : Option (AV × Heap)) (K : AV → Heap → Prop) : Prop := match x with | some p => K p.1 p.2 | none => False
theorem getP_map {x : Option AV} {H : Heap} {K : AV → Heap → Prop} (h : getP x fun v => K v H) : wGet (x.map (fun v => (v, H))) K := by
  obtain ⟨v, rfl, h⟩ := h; exact h
theorem getH_map {x : Option Heap} {K : AV → Heap → Prop} (h : getH x fun H => K undef H) : wGet (x.map (fun H => (undef, H))) K := by
  obtain ⟨v, rfl, h⟩ := h; exact h
theorem get2_map {x : Option (AV × Heap)} {K : AV → Heap → Prop} (h : get2 x K) : wGet x K := by
  obtain ⟨v, H, rfl, h⟩ := h; exact h
theorem xOp_sound {o : ROp} {s : List AV} {H : Heap} {K : AV → Heap → Prop} (h : xOp E o s H K) : wOp E o s H K := by
  cases o <;> simp only [xOp] at h <;> simp only [wOp]
  case mov x => exact h
  case pick c a b =>
    rcases splitB_ok h with ⟨ht, h⟩ | ⟨ht, h⟩
    · simp only [ROp.run, ht]; exact h
    · simp only [ROp.run, ht]; exact h
  case box v => obtain ⟨h1, h2⟩ := h; simp only [ROp.run, if_pos h1]; exact h2
  case build zero ps => obtain ⟨v, h1, h2⟩ := h; simp only [ROp.run, h1, Option.map_some]; exact h2
  case bslice sh tag n zero ps => obtain ⟨v, h1, h2⟩ := h; simp only [ROp.run, h1, Option.map_some]; exact h2
  case call f args =>
    obtain ⟨g, cp, hf, v, H', h1, h2⟩ := h
    rw [hf]; exact ⟨v, H', h1, h2⟩
  case fcall g args => exact h
  case mkfn g cp => exact h
  case mkmap => exact h
  case mkif t x => exact h
  case nilchk x =>
    have e : (ROp.nilchk x).run E noCall s H = (nilA (x.ev E s)).map fun v => (v, H) := by simp only [ROp.run]; cases x.ev E s <;> rfl
    rw [e]; exact getP_map h
  case field off sh x =>
    have e : (ROp.field off sh x).run E noCall s H = (fieldA off sh (x.ev E s)).map fun v => (v, H) := by simp only [ROp.run]; cases x.ev E s <;> rfl
    rw [e]; exact getP_map h
  case ext x i =>
    have e : (ROp.ext x i).run E noCall s H = (extA i (x.ev E s)).map fun v => (v, H) := by simp only [ROp.run]; cases x.ev E s <;> rfl
    rw [e]; exact getP_map h
  case toInt k x =>
    have e : (ROp.toInt k x).run E noCall s H = (toIntA k (x.ev E s)).map fun v => (v, H) := by simp only [ROp.run]; cases x.ev E s <;> rfl
    rw [e]; exact getP_map h
  case cap x =>
    have e : (ROp.cap x).run E noCall s H = (capA (x.ev E s)).map fun v => (v, H) := by simp only [ROp.run]; cases x.ev E s <;> rfl
    rw [e]; exact getP_map h
  case min x y =>
    have e : (ROp.min x y).run E noCall s H = (minA (x.ev E s) (y.ev E s)).map fun v => (v, H) := by simp only [ROp.run]; cases x.ev E s <;> cases y.ev E s <;> rfl
    rw [e]; exact getP_map h
  case max x y =>
    have e : (ROp.max x y).run E noCall s H = (maxA (x.ev E s) (y.ev E s)).map fun v => (v, H) := by simp only [ROp.run]; cases x.ev E s <;> cases y.ev E s <;> rfl
    rw [e]; exact getP_map h
  case sdata x =>
    have e : (ROp.sdata x).run E noCall s H = (sdataA (x.ev E s)).map fun v => (v, H) := by
      simp only [ROp.run]
      cases x.ev E s <;> try rfl
      simp only [sdataA]
      split <;> rfl
    rw [e]; exact getP_map h
  all_goals first | exact getP_map h | exact getH_map h | exact get2_map h
theorem set_getD {s : List AV} {t : Nat} {v : AV} (h : s.getD t undef = v) : s.set t v = s := by
  by_cases ht : t < s.length
  · rw [List.getD_eq_getElem?_getD, List.getElem?_eq_getElem ht] at h
    simp only [Option.getD_some] at h
    subst h
    exact List.set_getElem_self ht
  · exact List.set_eq_of_length_le (by omega)
def Und (us : List Nat) (s : List AV) : Prop := ∀ u ∈ us, s.getD u undef = undef
theorem Und.none {us : List Nat} {s : List AV} (h : Und us s) (d : Option Nat) : Und (d.toList ++ us) (putA s d undef) := by
  intro u hu
  cases d with
  | none => exact h u (by simpa using hu)
  | some d =>
    by_cases e : d = u
    · subst e
      by_cases hd : d < s.length
      · simp [putA, List.getD_eq_getElem?_getD, hd]
      · simp [putA, List.getD_eq_getElem?_getD, hd]
    · have : u ∈ us := by simp at hu; exact hu.resolve_left fun x => e x.symm
      simp only [putA, List.getD_eq_getElem?_getD, List.getElem?_set_ne e]
      simpa [List.getD_eq_getElem?_getD] using h u this
theorem mem_rem {u : Nat} {d : Option Nat} : ∀ {us : List Nat}, u ∈ rem d us → u ∈ us ∧ d ≠ some u
  | [], h => by cases d <;> simp [rem] at h
  | x :: r, h => by
    cases d with
    | none =>
      simp only [rem, List.mem_cons] at h
      rcases h with rfl | h
      · exact ⟨by simp, by simp⟩
      · exact ⟨by simp [(mem_rem h).1], by simp⟩
    | some d =>
      simp only [rem] at h
      cases hb : Nat.beq x d
      · rw [hb] at h
        simp only [cond_false, List.mem_cons] at h
        rcases h with rfl | h
        · exact ⟨by simp, fun e => by injection e with e; subst e; simp at hb⟩
        · exact ⟨by simp [(mem_rem h).1], (mem_rem h).2⟩
      · rw [hb] at h
        exact ⟨by simp [(mem_rem h).1], (mem_rem h).2⟩
theorem Und.put {us : List Nat} {s : List AV} (h : Und us s) (d : Option Nat) (v : AV) : Und (rem d us) (putA s d v) := by
  intro u hu
  obtain ⟨h1, h2⟩ := mem_rem hu
  cases d with
  | none => exact h u h1
  | some d =>
    have e : d ≠ u := fun e => h2 (by rw [e])
    simp only [putA, List.getD_eq_getElem?_getD, List.getElem?_set_ne e]
    simpa [List.getD_eq_getElem?_getD] using h u h1
theorem isIn_mem {t : Nat} : ∀ {us : List Nat}, isIn t us = true → t ∈ us
  | u :: r, h => by
    simp only [isIn] at h
    cases hb : Nat.beq u t
    · rw [hb] at h; simp [isIn_mem (us := r) h]
    · have := Nat.eq_of_beq_eq_true hb; simp [this]
theorem xOps_sound : ∀ {ops : List RO} {us : List Nat} {K : List AV → Heap → Prop} {s : List AV} {H : Heap}, Und us s → xOps E ops us K s H → wOps E ops K s H
  | [], _, _, _, _, _, h => h
  | o :: r, us, K, s, H, hu, h => by
    simp only [xOps, norm_eq] at h
    cases hg : o.guard with
    | none =>
      rw [hg] at h
      have hw : o.wanted s = true := by simp [RO.wanted, hg]
      exact ⟨fun _ => wOp_mono (fun v _ h => xOps_sound (hu.put o.dst v) h) (xOp_sound h), fun hf => by rw [hw] at hf; cases hf⟩
    | some g =>
      obtain ⟨t, w⟩ := g
      rw [hg] at h
      simp only at h
      cases hin : isIn t us
      · rw [hin] at h
        cases w
        · rcases splitB_ok h with ⟨hb, h⟩ | ⟨hb, h⟩
          · rw [set_getD hb] at h
            have hw : o.wanted s = false := by simp only [RO.wanted, hg, hb]; rfl
            exact ⟨fun e => (by rw [hw] at e; cases e), fun _ => xOps_sound (hu.none o.dst) h⟩
          · rw [set_getD hb] at h
            have hw : o.wanted s = true := by simp only [RO.wanted, hg, hb]; rfl
            exact ⟨fun _ => wOp_mono (fun v _ h => xOps_sound (hu.put o.dst v) h) (xOp_sound h), fun e => by rw [hw] at e; cases e⟩
        · rcases splitB_ok h with ⟨hb, h⟩ | ⟨hb, h⟩
          · rw [set_getD hb] at h
            have hw : o.wanted s = true := by simp only [RO.wanted, hg, hb]; rfl
            exact ⟨fun _ => wOp_mono (fun v _ h => xOps_sound (hu.put o.dst v) h) (xOp_sound h), fun e => by rw [hw] at e; cases e⟩
          · rw [set_getD hb] at h
            have hw : o.wanted s = false := by simp only [RO.wanted, hg, hb]; rfl
            exact ⟨fun e => (by rw [hw] at e; cases e), fun _ => xOps_sound (hu.none o.dst) h⟩
      · rw [hin] at h
        have hw : o.wanted s = false := by simp only [RO.wanted, hg, hu t (isIn_mem hin)]; rfl
        exact ⟨fun e => (by rw [hw] at e; cases e), fun _ => xOps_sound (hu.none o.dst) h⟩
theorem xTr_sound : ∀ {ops : List RO} {us : List Nat} {K : List AV → Heap → List Tr → Prop} {s : List AV} {H : Heap}, Und us s → xTr E ops us K s H → wTr E ops K s H
  | [], _, _, _, _, _, h => h
  | o :: r, us, K, s, H, hu, h => by
    simp only [xTr] at h
    cases hg : o.guard with
    | none =>
      rw [hg] at h
      have hw : o.wanted s = true := by simp [RO.wanted, hg]
      exact ⟨fun _ => wOp_mono (fun v _ h => xTr_sound (hu.put o.dst v) h) (xOp_sound h), fun hf => by rw [hw] at hf; cases hf⟩
    | some g =>
      obtain ⟨t, w⟩ := g
      rw [hg] at h
      simp only at h
      cases hin : isIn t us
      · rw [hin] at h
        cases w
        · rcases splitB_ok h with ⟨hb, h⟩ | ⟨hb, h⟩
          · rw [set_getD hb] at h
            have hw : o.wanted s = false := by simp only [RO.wanted, hg, hb]; rfl
            exact ⟨fun e => (by rw [hw] at e; cases e), fun _ => xTr_sound (hu.none o.dst) h⟩
          · rw [set_getD hb] at h
            have hw : o.wanted s = true := by simp only [RO.wanted, hg, hb]; rfl
            exact ⟨fun _ => wOp_mono (fun v _ h => xTr_sound (hu.put o.dst v) h) (xOp_sound h), fun e => by rw [hw] at e; cases e⟩
        · rcases splitB_ok h with ⟨hb, h⟩ | ⟨hb, h⟩
          · rw [set_getD hb] at h
            have hw : o.wanted s = true := by simp only [RO.wanted, hg, hb]; rfl
            exact ⟨fun _ => wOp_mono (fun v _ h => xTr_sound (hu.put o.dst v) h) (xOp_sound h), fun e => by rw [hw] at e; cases e⟩
          · rw [set_getD hb] at h
            have hw : o.wanted s = false := by simp only [RO.wanted, hg, hb]; rfl
            exact ⟨fun e => (by rw [hw] at e; cases e), fun _ => xTr_sound (hu.none o.dst) h⟩
      · rw [hin] at h
        have hw : o.wanted s = false := by simp only [RO.wanted, hg, hu t (isIn_mem hin)]; rfl
        exact ⟨fun e => (by rw [hw] at e; cases e), fun _ => xTr_sound (hu.none o.dst) h⟩
theorem X_sound : ∀ {rc : RC} {Q : Post} {s : List AV} {H : Heap}, X E rc Q s H → W E rc Q s H := by
  intro rc
  induction rc with
  | skip => intro Q s H h; exact h
  | region ops d =>
    intro Q s H h
    cases d
    · exact xOps_sound (fun u hu => by cases hu) h
    · exact ⟨h.1, xTr_sound (fun u hu => by cases hu) h.2⟩
  | region2 pre x y =>
    intro Q s H h
    obtain ⟨h0, s1, H1, hA, hB, h⟩ := h
    exact ⟨h0, s1, H1, xTr_sound (fun u hu => by cases hu) hA, xTr_sound (fun u hu => by cases hu) hB, h⟩
  | seq a b iha ihb =>
    intro Q s H h
    simp only [X] at h
    simp only [W]
    exact W_mono (fun o s H h => by cases o with
      | normal => exact ihb h
      | exit id => exact h
      | ret => exact h) (iha h)
  | cond c a b iha ihb =>
    intro Q s H h
    have ht : ∀ c : RX, c.ev E s = .bool true → X E a Q s H → W E (.cond c a b) Q s H := by
      intro c hc h
      simp only [W, hc]
      exact ⟨fun _ => iha h, by simp⟩
    have hf : ∀ c : RX, c.ev E s = .bool false → X E b Q s H → W E (.cond c a b) Q s H := by
      intro c hc h
      simp only [W, hc]
      exact ⟨by simp, fun _ => ihb h⟩
    cases c with
    | t n =>
      simp only [X] at h
      rcases splitB_ok h with ⟨hb, h⟩ | ⟨hb, h⟩
      · rw [set_getD hb] at h; exact ht _ hb h
      · rw [set_getD hb] at h; exact hf _ hb h
    | c v =>
      simp only [X] at h
      rcases splitB_ok h with ⟨hb, h⟩ | ⟨hb, h⟩
      · exact ht _ hb h
      · exact hf _ hb h
    | glob g =>
      simp only [X] at h
      rcases splitB_ok h with ⟨hb, h⟩ | ⟨hb, h⟩
      · exact ht _ hb h
      · exact hf _ hb h
  | block id a ih =>
    intro Q s H h
    simp only [X] at h
    simp only [W]
    refine W_mono (fun o s H h => ?_) (ih h)
    cases o with
    | normal => exact h
    | exit j =>
      simp only at h ⊢
      cases hb : Nat.beq j id
      · rw [hb] at h
        rw [if_neg (fun e => by subst e; simp at hb)]
        exact h
      · rw [hb] at h
        rw [if_pos (Nat.eq_of_beq_eq_true hb)]
        exact h
    | ret => exact h
  | exit id => intro Q s H h; exact h
  | ret => intro Q s H h; exact h
  | loop a ih =>
    intro Q s H h
    simp only [X] at h
    obtain ⟨I, h0, hs⟩ := h
    exact loopP_sound ⟨I, h0, fun n f H hI => ih (hs n f H hI)⟩

/-! ### A function's end -/
def resP (s : List AV) (H : Heap) : List RRes → (List AV → Prop) → Prop
  | [], K => K []
  | .tmp t :: r, K => resP s H r fun vs => K (s.getD t undef :: vs)
  | .cell t sh :: r, K => getP (loadA sh (s.getD t undef) H) fun v => resP s H r fun vs => K (v :: vs)
def fnPost (res : List RRes) (K : AV → Heap → Prop) : Post := fun out s H =>
  match out with
  | .exit _ => False
  | _ => resP s H res fun vs => K (packA vs) H
theorem resP_ok {s : List AV} {H : Heap} : ∀ {rs : List RRes} {K : List AV → Prop}, resP s H rs K → ∃ vs, resOf s H rs = some vs ∧ K vs
  | [], K, h => ⟨[], rfl, h⟩
  | .tmp t :: r, K, h => by
    obtain ⟨vs, h1, h2⟩ := resP_ok (rs := r) (K := fun vs => K (s.getD t undef :: vs)) h
    exact ⟨s.getD t undef :: vs, by simp only [resOf, h1, Option.map_some], h2⟩
  | .cell t sh :: r, K, h => by
    obtain ⟨v, h0, h⟩ := h
    obtain ⟨vs, h1, h2⟩ := resP_ok (rs := r) (K := fun vs => K (v :: vs)) h
    exact ⟨v :: vs, by simp only [resOf, h0, h1, Option.map_some, Option.bind_some], h2⟩
theorem fnPost_ok {res : List RRes} {K : AV → Heap → Prop} {out : Out} {s : List AV} {H : Heap} (h : fnPost res K out s H) : (∀ id, out ≠ .exit id) ∧ ∃ v, (resOf s H res).map packA = some v ∧ K v H := by
  cases out with
  | exit id => exact h.elim
  | normal => obtain ⟨vs, h1, h2⟩ := resP_ok h; exact ⟨fun _ => by simp, packA vs, by rw [h1]; rfl, h2⟩
  | ret => obtain ⟨vs, h1, h2⟩ := resP_ok h; exact ⟨fun _ => by simp, packA vs, by rw [h1]; rfl, h2⟩
theorem Ret.isoX {g : Nat} {f : RF} {args args' : List AV} {H : Heap} (hp : E.prim g = none) (hf : E.fn g = some f) (hi : f.iso = true) (ha : PubL H args args') {v : AV}
    (h : X E f.body (fnPost f.res fun v0 H1 => Pub (!AV.noIdsL args) H1 v0 v) (args' ++ List.replicate (f.nt - args'.length) undef) []) : Ret E g args H v H :=
  Ret.iso hp hf hi ha (W_mono (fun _ _ _ h => fnPost_ok h) (X_sound h))
theorem Ret.openX {g : Nat} {f : RF} {args : List AV} {H : Heap} (hp : E.prim g = none) (hf : E.fn g = some f) (hi : f.iso = false) {v : AV} {H' : Heap}
    (h : X E f.body (fnPost f.res fun v0 H1 => v0 = v ∧ H1 = H') (args ++ List.replicate (f.nt - args.length) undef) H) : Ret E g args H v H' :=
  Ret.open hp hf hi (W_mono (fun _ _ _ h => by
    obtain ⟨h1, v0, h2, rfl, rfl⟩ := fnPost_ok h
    exact ⟨h1, h2, rfl⟩) (X_sound h))
end
end Go.AM

/- More fuel tells the same. -/
namespace Go.AM
set_option linter.unusedVariables false
set_option linter.unusedSimpArgs false
abbrev Cl := Nat → List AV → Heap → Option (AV × Heap)
def LeC (a b : Cl) : Prop := ∀ g x H r, a g x H = some r → b g x H = some r
section
variable {E : Env} {c1 c2 : Cl} (hc : LeC c1 c2)
include hc
theorem run_le {o : ROp} {s : List AV} {H : Heap} {r : AV × Heap} (h : o.run E c1 s H = some r) : o.run E c2 s H = some r := by
  have other : (∀ f a, o ≠ .call f a) → (∀ g a, o ≠ .fcall g a) → o.run E c2 s H = some r := fun h1 h2 => by
    rw [run_noCall h1 h2] at h ⊢; exact h
  cases o
  case call f args =>
    simp only [ROp.run] at h ⊢
    split at h
    · exact hc _ _ _ _ h
    · cases h
  case fcall g args => exact hc _ _ _ _ h
  all_goals exact other (by intros; simp) (by intros; simp)
theorem runOps_le : ∀ {ops : List RO} {s : List AV} {H : Heap} {r : List AV × Heap}, runOps E c1 ops s H = some r → runOps E c2 ops s H = some r
  | [], _, _, _, h => h
  | o :: ops, s, H, r, h => by
    simp only [runOps] at h ⊢
    split at h
    · rename_i hw
      rw [if_pos hw]
      obtain ⟨p, h1, h2⟩ := Option.bind_eq_some_iff.1 h
      rw [run_le hc h1, Option.bind_some]
      exact runOps_le h2
    · rename_i hw
      rw [if_neg hw]
      exact runOps_le h
theorem runTr_le : ∀ {ops : List RO} {s : List AV} {H : Heap} {r}, runTr E c1 ops s H = some r → runTr E c2 ops s H = some r
  | [], _, _, _, h => h
  | o :: ops, s, H, r, h => by
    simp only [runTr] at h ⊢
    split at h
    · rename_i hw
      rw [if_pos hw]
      obtain ⟨p, h1, h2⟩ := Option.bind_eq_some_iff.1 h
      obtain ⟨q, h3, h4⟩ := Option.map_eq_some_iff.1 h2
      rw [run_le hc h1, Option.bind_some, runTr_le h3, Option.map_some, h4]
    · rename_i hw
      rw [if_neg hw]
      obtain ⟨q, h3, h4⟩ := Option.map_eq_some_iff.1 h
      rw [runTr_le h3, Option.map_some, h4]
theorem rounds_le {b1 b2 : List AV → Heap → Option (Out × List AV × Heap)} (hb : ∀ s H r, b1 s H = some r → b2 s H = some r) : ∀ {k k' : Nat}, k ≤ k' → ∀ {s H r}, exec.rounds k b1 s H = some r → exec.rounds k' b2 s H = some r
  | 0, _, _, s, H, r, h => by simp [exec.rounds] at h
  | k + 1, 0, hk, _, _, _, _ => by omega
  | k + 1, k' + 1, hk, s, H, r, h => by
    simp only [exec.rounds] at h ⊢
    obtain ⟨p, h1, h2⟩ := Option.bind_eq_some_iff.1 h
    rw [hb _ _ _ h1, Option.bind_some]
    obtain ⟨out, s1, H1⟩ := p
    cases out with
    | normal => exact rounds_le hb (by omega) h2
    | exit id => exact h2
    | ret => exact h2
theorem exec_le {k k' : Nat} (hk : k ≤ k') : ∀ {rc : RC} {s : List AV} {H : Heap} {r}, exec E c1 k rc s H = some r → exec E c2 k' rc s H = some r := by
  intro rc
  induction rc with
  | skip => intro s H r h; simpa [exec] using h
  | exit id => intro s H r h; simpa [exec] using h
  | ret => intro s H r h; simpa [exec] using h
  | region ops d =>
    intro s H r h
    cases d
    · simp only [exec] at h ⊢
      obtain ⟨p, h1, h2⟩ := Option.map_eq_some_iff.1 h
      rw [runOps_le hc h1, Option.map_some, h2]
    · simp only [exec] at h ⊢
      split at h
      · rename_i hw
        rw [if_pos hw]
        obtain ⟨p, h1, h2⟩ := Option.bind_eq_some_iff.1 h
        rw [runTr_le hc h1, Option.bind_some]; exact h2
      · cases h
  | region2 pre x y =>
    intro s H r h
    simp only [exec] at h ⊢
    split at h
    · rename_i hw
      rw [if_pos hw]
      obtain ⟨p, h1, h2⟩ := Option.bind_eq_some_iff.1 h
      obtain ⟨q, h3, h4⟩ := Option.bind_eq_some_iff.1 h2
      rw [runTr_le hc h1, Option.bind_some, runTr_le hc h3, Option.bind_some]; exact h4
    · cases h
  | seq a b iha ihb =>
    intro s H r h
    simp only [exec] at h ⊢
    obtain ⟨p, h1, h2⟩ := Option.bind_eq_some_iff.1 h
    rw [iha h1, Option.bind_some]
    obtain ⟨out, s1, H1⟩ := p
    cases out with
    | normal => exact ihb h2
    | exit id => exact h2
    | ret => exact h2
  | cond c a b iha ihb =>
    intro s H r h
    simp only [exec] at h ⊢
    split at h
    · exact iha h
    · exact ihb h
    · cases h
  | block id a ih =>
    intro s H r h
    simp only [exec] at h ⊢
    obtain ⟨p, h1, h2⟩ := Option.map_eq_some_iff.1 h
    rw [ih h1, Option.map_some, h2]
  | loop a ih =>
    intro s H r h
    simp only [exec] at h ⊢
    exact rounds_le hc (fun s H r h => ih h) hk h
end
theorem pub_le (fr : Bool) (H : Heap) : ∀ k, (∀ v r, pub fr k H v = some r → pub fr (k + 1) H v = some r) ∧ (∀ v r, pubL fr k H v = some r → pubL fr (k + 1) H v = some r)
  | 0 => ⟨fun v r h => by simp [pub] at h, fun v r h => by simp [pubL] at h⟩
  | k + 1 => by
    obtain ⟨i1, i2⟩ := pub_le fr H k
    have mp : ∀ {vs : List AV} {f : List AV → AV} {r : AV}, (pubL fr k H vs).map f = some r → (pubL fr (k + 1) H vs).map f = some r := by
      intro vs f r h
      obtain ⟨p, h1, h2⟩ := Option.map_eq_some_iff.1 h
      rw [i2 _ _ h1, Option.map_some, h2]
    constructor
    · intro v r h
      rw [pub.eq_def] at h ⊢
      cases v <;> simp only at h ⊢
      case ptr b off =>
        split at h
        · skip
          split at h
          · rename_i ho; rw [if_pos ho]; exact mp h
          · cases h
        · skip
          split at h
          · rename_i ho; rw [if_pos ho]; exact mp h
          · cases h
        · cases h
      case sl b off len sh =>
        split at h
        · skip
          split at h
          · rename_i ho; rw [if_pos ho]
            obtain ⟨p, h1, h2⟩ := Option.bind_eq_some_iff.1 h
            rw [i2 _ _ h1, Option.bind_some, h2]
          · cases h
        · cases h
      case map b =>
        split at h
        · skip
          obtain ⟨p, h1, h2⟩ := Option.bind_eq_some_iff.1 h
          rw [i2 _ _ h1, Option.bind_some]; exact mp h2
        · cases h
      case fn g cp => exact mp h
      case agg cs => exact mp h
      case tup cs => exact mp h
      case iface t v =>
        obtain ⟨p, h1, h2⟩ := Option.map_eq_some_iff.1 h
        rw [i1 _ _ h1, Option.map_some, h2]
      all_goals exact h
    · intro v r h
      cases v with
      | nil => simpa [pubL] using h
      | cons v q =>
        rw [pubL] at h ⊢
        obtain ⟨p, h1, h2⟩ := Option.bind_eq_some_iff.1 h
        rw [i1 _ _ h1, Option.bind_some]
        obtain ⟨p2, h3, h4⟩ := Option.map_eq_some_iff.1 h2
        rw [i2 _ _ h3, Option.map_some, h4]
theorem callF_le {E : Env} : ∀ k, LeC (callF E k) (callF E (k + 1))
  | 0 => fun g x H r h => by simp [callF] at h
  | k + 1 => by
    intro g x H r h
    have ih := callF_le (E := E) k
    have bd : ∀ {f : RF} {a : List AV} {H : Heap} {r}, bodyF E (callF E k) k f a H = some r → bodyF E (callF E (k + 1)) (k + 1) f a H = some r := by
      intro f a H r h
      simp only [bodyF] at h ⊢
      obtain ⟨p, h1, h2⟩ := Option.bind_eq_some_iff.1 h
      rw [exec_le ih (Nat.le_succ k) h1, Option.bind_some]; exact h2
    rw [callF] at h ⊢
    cases hp : E.prim g with
    | some p => rw [hp] at h; exact h
    | none =>
      rw [hp] at h
      simp only at h ⊢
      cases hf : E.fn g with
      | none => rw [hf] at h; cases h
      | some f =>
        rw [hf] at h
        simp only at h ⊢
        split at h
        · rename_i hi
          rw [if_pos hi]
          obtain ⟨a', h1, h2⟩ := Option.bind_eq_some_iff.1 h
          obtain ⟨p, h3, h4⟩ := Option.bind_eq_some_iff.1 h2
          obtain ⟨v, h5, h6⟩ := Option.map_eq_some_iff.1 h4
          rw [(pub_le _ _ k).2 _ _ h1, Option.bind_some, bd h3, Option.bind_some, (pub_le _ _ k).1 _ _ h5, Option.map_some, h6]
        · rename_i hi
          rw [if_neg hi]
          exact bd h
theorem Ret.of {E : Env} {k g : Nat} {x : List AV} {H : Heap} {r : AV × Heap} (h : callF E k g x H = some r) : Ret E g x H r.1 r.2 := by
  refine ⟨k, fun k' hk => ?_⟩
  obtain ⟨d, rfl⟩ := Nat.exists_eq_add_of_le hk
  clear hk
  induction d with
  | zero => exact h
  | succ d ih => exact callF_le _ _ _ _ _ ih
end Go.AM
