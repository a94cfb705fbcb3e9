/- Def and Possible, answered in memory of the caller's own; the document's look-up. -/
import Derived.Test.YtlpmnnkijdbopaaBg
import Derived.Test.YtlpmnnkijdbopaaBf
import Derived.Test.YtlpmnnkijdbopaaBd
import Derived.Test.YtlpmnnkijdbopaaBc
import Derived.Test.YtlpmnnkijdbopaaBb
set_option linter.unusedSectionVars false
set_option linter.unnecessarySimpa false
set_option linter.deprecated false
set_option linter.unusedVariables false
set_option linter.unusedSimpArgs false
namespace Go.AM.T
set_option linter.unusedVariables false
set_option linter.unusedSimpArgs false
set_option maxRecDepth 100000

def Tab.defB (t : Tab) (n : Str) : Bool := (t.look n).isSome && !fiveL.contains n
structure DefR (t : Tab) (n : Str) (H : Heap) (w : AV) (H' : Heap) : Prop where
  g : GrowH H H'
  l : w.cells.length = 7
  a : ∃ cs, w = .agg cs
  c : w.cells.all AV.isCell = true
  s : ∃ k nm v7 v25 v11 inp po, w = .agg [k, nm, v7, v25, v11, inp, po] ∧ Wr H.length H' v11 1 none ∧ Wr H.length H' v25 4 (some 4)
  f : t.defB n = true → Fresh H.length H' w (t.get n).av
theorem Wr.keep {Ha Hb : Heap} {lo lo' sz : Nat} {sh : Option Nat} {v : AV} (h : Wr lo Ha v sz sh) (hl : lo' ≤ lo) (hk : ∀ c q, lo ≤ c → Ha[c]? = some q → Hb[c]? = some q) : Wr lo' Hb v sz sh := by
  rcases h with h | ⟨b, n, cs, e, h1, h2, h3, h4, h5⟩
  · exact .inl h
  · exact .inr ⟨b, n, cs, e, by omega, hk b _ h1 h2, h3, h4, h5⟩
theorem r112 {t : Tab} (ht : t.ok) (hgd : ∀ p ∈ t, p.2.good ∨ p.1 ∈ fiveL) (hnc : t.nice) (o) (n : Str) (H : Heap) : ∃ v' H', (∃ w, v' = .tup [w, .bool (t.defB n)] ∧ DefR t n H w H') ∧ Ret env 112 [TT t o, .str n] H v' H' := by
  refine Ret.openQ (f := c112) rfl rfl rfl (Eq.mpr (x112 _ _ _ _ _) ?_)
  show boxP (.agg [I 0, .str [], .nils, .nils, .nils, .nils, I 0]) H _
  rw [boxP_agg _ _ _ (by simp [AV.isCell])]
  refine ⟨_, rfl, _, rfl, _, rfl, _, lookup_t t n _, _, rfl, _, rfl, ?_⟩
  show boxP (.agg [I 0, .str [], .nils, .nils, .nils, .nils, I 0]) (H ++ [Blk.cells [I 0, .str [], .nils, .nils, .nils, .nils, I 0]]) _
  rw [boxP_agg _ _ _ (by simp [AV.isCell])]
  rw [cells7 (v := (t.get n).av) rfl ⟨_, rfl⟩ (get_cells_all hnc n), getH_some]
  have z0 : (H ++ [Blk.cells [I 0, .str [], .nils, .nils, .nils, .nils, I 0]] ++ [Blk.cells (t.get n).av.cells])[H.length]? = some (.cells [I 0, .str [], .nils, .nils, .nils, .nils, I 0]) := by simp
  have z1 : (H ++ [Blk.cells [I 0, .str [], .nils, .nils, .nils, .nils, I 0]] ++ [Blk.cells (t.get n).av.cells])[(H ++ [Blk.cells [I 0, .str [], .nils, .nils, .nils, .nils, I 0]]).length]? = some (.cells (t.get n).av.cells) := by simp
  have gH : GrowH H (H ++ [Blk.cells [I 0, .str [], .nils, .nils, .nils, .nils, I 0]] ++ [Blk.cells (t.get n).av.cells]) := (GrowH.app H _).trans (GrowH.app _ _)
  have l2 : H.length + 2 = (H ++ [Blk.cells [I 0, .str [], .nils, .nils, .nils, .nils, I 0]] ++ [Blk.cells (t.get n).av.cells]).length := by simp
  generalize hH2 : H ++ [Blk.cells [I 0, .str [], .nils, .nils, .nils, .nils, I 0]] ++ [Blk.cells (t.get n).av.cells] = H2 at *
  have hl0 : H.length < H2.length := by omega
  have zero : ∀ {b : Bool}, t.defB n = b → b = false → (∃ w, AV.tup [.agg [I 0, .str [], .nils, .nils, .nils, .nils, I 0], .bool false] = .tup [w, .bool (t.defB n)] ∧ DefR t n H w (H2.set H.length (.cells [I 0, .str [], .nils, .nils, .nils, .nils, I 0]))) := by
    intro b h1 h2
    subst h2
    refine ⟨_, by rw [h1], ⟨by simp; omega, fun c hc => by rw [List.getElem?_set_ne (by omega)]; exact gH.2 c hc⟩, rfl, ⟨_, rfl⟩, rfl, ⟨_, _, _, _, _, _, _, rfl, .inl rfl, .inl rfl⟩, fun h => by rw [h1] at h; cases h⟩
  have znone : ∀ {b : Bool}, t.defB n = b → b = false → getP (fillA [AV.int .i64 0, AV.str [], AV.nils, AV.nils, AV.nils, AV.nils, AV.int .i64 0] []) fun v13 => getH (storeA 7 (.ptr H.length 0) (.agg v13) H2) fun h14 => getP (loadA (some 7) (.ptr H.length 0) h14) fun v15 => (fun v' H' => ∃ w, v' = .tup [w, .bool (t.defB n)] ∧ DefR t n H w H') (AV.tup [v15, .bool false]) h14 := by
    intro b h1 h2
    refine ⟨_, rfl, _, store_cells0 z0 rfl rfl rfl, _, load_cells0 (cs := [I 0, .str [], .nils, .nils, .nils, .nils, I 0]) (by rw [List.getElem?_set_self hl0]) rfl, zero h1 h2⟩
  rw [notB, getP_some, splitB_iff]
  refine ⟨fun hno => ?_, fun hyes => ?_⟩
  · have hno : (t.look n).isSome = false := by simpa using hno
    exact znone (b := false) (by simp [Tab.defB, hno]) rfl
  · have hyes : (t.look n).isSome = true := by simpa using hyes
    rw [k20, k21 (SLike.data _) (by simp [fiveL])]
    refine splitB_bool (fun hc => znone (b := false) (by simp [Tab.defB]; intro _; simpa using hc) rfl) fun hc => ?_
    have hd : t.defB n = true := by simp [Tab.defB, hyes]; simpa using hc
    have hgood : (t.get n).good := by
      unfold Tab.get
      cases e : t.look n with
      | none => rw [e] at hyes; cases hyes
      | some d =>
        rcases hgd _ (look_mem e) with h | h
        · exact h
        · simp at hc; exact absurd h hc
    refine ⟨(t.get n).av, load_cells0 z1 rfl, ?_⟩
    obtain ⟨w, H3, own9, hr⟩ := r109 hgood H2
    refine ⟨w, H3, hr, ?_⟩
    have y0 := own9.c.g.at z0
    obtain ⟨k, nm, v7, v25, v11, inp, po, ew, w1, w2⟩ := own9.s
    have hc7 := own9.c.c
    subst ew
    refine ⟨_, store_cells0 y0 rfl rfl hc7, _, load_cells0 (cs := [k, nm, v7, v25, v11, inp, po]) (by rw [List.getElem?_set_self (List.getElem?_eq_some_iff.1 y0).1]) rfl, _, by rw [hd], ?_⟩
    have up : ∀ c q, H2.length ≤ c → H3[c]? = some q → (H3.set H.length (.cells [k, nm, v7, v25, v11, inp, po]))[c]? = some q := by
      intro c q hc hq; rw [List.getElem?_set_ne (by omega)]; exact hq
    refine ⟨⟨by have := own9.c.g.1; simp; omega, fun c hc => by rw [List.getElem?_set_ne (by omega), own9.c.g.2 c (by omega)]; exact gH.2 c hc⟩, rfl, ⟨_, rfl⟩, hc7, ⟨k, nm, v7, v25, v11, inp, po, rfl, w1.keep (by omega) fun c q hc hq => up c q (by omega) hq, w2.keep (by omega) fun c q hc hq => up c q (by omega) hq⟩, fun _ => ?_⟩
    exact own9.c.f.mono (by omega) fun c q hc hq => up c q hc hq
/-! ### Possible -/
theorem app1G {H0 H : Heap} {v : AV} {l : List Str} (g : GrowH H0 H) (h : OutL v H l) (hb : ∀ b n, v = .sl b 0 n none → H0.length ≤ b) (s : Str) (hl : l.length ≤ 8796093022000) :
    ∃ v' H', OutL v' H' (l ++ [s]) ∧ GrowH H0 H' ∧ (∀ b n, v' = .sl b 0 n none → H0.length ≤ b) ∧
      ∀ K : AV → Heap → AV → Heap → Prop, sliceP none 0 1 [AV.str []] [(0, 1, AV.str s)] H (fun v1 h1 => get2 (appA none 0 16 v v1 h1) (K v1 h1)) = K (.sl H.length 0 1 none) (H ++ [Blk.arr 1 0 0 [.str s]]) v' H' := by
  obtain ⟨v', H', q1, q2, q3, q4, q5⟩ := app1 h s hl
  refine ⟨v', H', q1, ⟨by have := g.1; omega, fun b hb' => ?_⟩, ?_, q5⟩
  · have hx : H0[b]? = some H0[b] := List.getElem?_eq_getElem hb'
    rw [hx]
    refine q2 b _ (g.at hx) fun e => ?_
    have := hb b _ e
    omega
  · intro b n e
    have hg := g.1
    rcases q1 with ⟨q, _⟩ | ⟨c, q, _, _⟩
    · rw [q] at e; cases e
    · have : c = b := by rw [q] at e; injection e
      have := q4 c q
      omega
structure PossR (q : Option (List Str)) (H : Heap) (v' : AV) (H' : Heap) : Prop where
  g : GrowH H H'
  v : (v' = .nils ∧ q = none) ∨ ∃ b L cs', q = some L ∧ v' = .sl b 0 L.length none ∧ H.length ≤ b ∧ H'[b]? = some (.arr 1 0 0 cs') ∧ cs'.take L.length = strs L
theorem tail113 {H0 H : Heap} {v : AV} {l : List Str} (g : GrowH H0 H) (h : OutL v H l) (hb0 : ∀ b n, v = .sl b 0 n none → H0.length ≤ b) (hl : ShortL l) :
    callP env 28 [v] H fun _ h9 => callP env 29 [v] h9 fun v10 h11 => callP env 30 [v10] h11 fun v12 h13 => PossR (possR l) H0 v12 h13 := by
  rcases h with ⟨rfl, rfl⟩ | ⟨b, rfl, hb, h0⟩
  · rw [callP_eq (r28n H), callP_eq (r29n H), callP_eq (r30n H)]
    exact ⟨g, .inl ⟨rfl, rfl⟩⟩
  · rw [callP_eq (r28 hb h0 hl)]
    have hbl : b < H.length := (List.getElem?_eq_some_iff.1 hb).1
    have hb2 : (H.set b (.arr 1 0 0 (strs (isort l))))[b]? = some (.arr 1 0 0 (strs (isort l))) := by simp [hbl]
    obtain ⟨v, H', ⟨cs', rfl, rfl, h1, h2⟩, hr⟩ := r29 hb2 (by rw [ShortL, isort_length]; exact hl)
    rw [isort_length] at hr
    refine ⟨_, _, hr, _, _, r30 b _ _, ?_⟩
    have hne : l ≠ [] := by intro e; subst e; simp at h0
    have hb0' := hb0 b _ rfl
    rw [List.set_set]
    refine ⟨⟨by have := g.1; simp; omega, fun c hc => by rw [List.getElem?_set_ne (by omega)]; exact g.2 c hc⟩, .inr ⟨b, compL (isort l), cs', by simp only [possR, hne, if_false], rfl, hb0', by simp [hbl], h2⟩⟩
theorem r113 {t : Tab} (ht : t.ok) (o : Option (List Str)) (ho : (o.getD []).length ≤ 8796093022000) (n : Str) (hm : ((t.get n).mem.getD []).length ≤ 8796093022000) (H : Heap) : ∃ v' H', PossR (t.poss o n) H v' H' ∧ Ret env 113 [TT t o, .str n] H v' H' := by
  refine Ret.openQ (f := c113) rfl rfl rfl (Eq.mpr (x113 _ _ _ _ _) ?_)
  simp only [k8 ht, eqlI, getP_some, splitB_iff]
  have nb : ∀ b n, AV.nils = .sl b 0 n none → H.length ≤ b := fun b n e => by cases e
  refine ⟨fun e2 => ?_, fun e2 => ⟨fun e3 => ?_, fun e3 => ⟨fun e4 => ?_, fun e4 => ?_⟩⟩⟩
  · have e2 : t.kind n = 2 := by simpa using e2
    obtain ⟨v', H', ho', hg', hb', hk⟩ := app1G (GrowH.refl H) (OutL.nil H) nb n (by simp)
    rw [hk fun _ _ => _]
    have hg : t.poss o n = possR [n] := by simp [Tab.poss, Tab.gather, e2]
    rw [hg]
    exact tail113 hg' ho' hb' (by simp)
  · have e2 : t.kind n ≠ 2 := by simpa using e2
    have e3 : t.kind n = 3 := by simpa using e3
    have hg : t.gather o n = (o.getD []).filter fun s => t.is s [2] && ((t.get s).impl.getD []).contains n := by simp only [Tab.gather, e2, e3, if_false, if_true]; simp
    simp only [TT_nil, TT_f1, load_d1, getP_some, (ostr_like o).len]
    generalize hl : o.getD [] = l at *
    have hol : SLike (ostr o) (strs l) := hl ▸ ostr_like o
    refine ⟨fun m f H' => ∃ i : Nat, i + m = l.length ∧ f 26 = I ↑i ∧ OutL (f 5) H' ((l.take i).filter fun s => t.is s [2] && ((t.get s).impl.getD []).contains n) ∧ GrowH H H' ∧ ∀ b n, f 5 = .sl b 0 n none → H.length ≤ b, ⟨l.length, 0, by simp, rfl, OutL.nil _, GrowH.refl H, nb⟩, ?_⟩
    rintro m f H' ⟨i, hi, h26, hout, hgr, hbs⟩
    simp only [h26, lssI, getP_some, splitB_iff, decide_eq_true_eq, decide_eq_false_iff_not, List.length_map]
    refine ⟨fun hlt => ?_, fun hlt => ?_⟩
    · have hlt : i < l.length := by omega
      have hgi := List.getElem?_eq_getElem hlt
      simp only [hol.iaddr (get_map hlt) (strs_cells l), getP_some, AV.cells, load_d1, is_1 ht, TT_f0, TT_l0, lookup_f, field_impl, k21 (ostr_like _) (Tab.get_ok ht _).impl, splitB_iff, add1 (show i < 4611686018427387904 by omega)]
      have hgr' := hgr.trans (GrowH.app H' [.arr 1 0 0 (ints [2])])
      refine ⟨fun e5 => ⟨fun e6 => ?_, fun e6 => ?_⟩, fun e5 => ?_⟩
      · obtain ⟨v', H1, ho', hg', hb', hk⟩ := app1G hgr' (hout.grow [.arr 1 0 0 (ints [2])]) hbs l[i] (Nat.le_trans (filter_len _ _ _) ho)
        rw [hk]
        refine ⟨m - 1, by omega, i + 1, by omega, rfl, ?_, hg', hb'⟩
        rw [filter_take _ hgi, e5, e6]; exact ho'
      · refine ⟨m - 1, by omega, i + 1, by omega, rfl, ?_, hgr', hbs⟩
        rw [filter_take _ hgi, e5, e6]; simpa using hout.grow _
      · refine ⟨m - 1, by omega, i + 1, by omega, rfl, ?_, hgr', hbs⟩
        rw [filter_take _ hgi, e5]; simpa using hout.grow _
    · have : l.take i = l := by rw [List.take_of_length_le]; omega
      rw [this] at hout
      rw [Tab.poss, hg]
      exact tail113 hgr hout hbs (Nat.lt_of_le_of_lt (List.length_filter_le _ _) (by omega))
  · have e2 : t.kind n ≠ 2 := by simpa using e2
    have e3 : t.kind n ≠ 3 := by simpa using e3
    have e4 : t.kind n = 4 := by simpa using e4
    have hg : t.gather o n = ((t.get n).mem.getD []).filter fun s => t.is s [2] := by simp only [Tab.gather, e2, e3, e4, if_false, if_true]; simp
    simp only [TT_nil, TT_f0, TT_l0, lookup_f, field_mem, load_d1, getP_some, (ostr_like _).len]
    generalize hl : (t.get n).mem.getD [] = l at *
    have hol : SLike (ostr (t.get n).mem) (strs l) := hl ▸ ostr_like _
    refine ⟨fun m f H' => ∃ i : Nat, i + m = l.length ∧ f 60 = I ↑i ∧ OutL (f 5) H' ((l.take i).filter fun s => t.is s [2]) ∧ GrowH H H' ∧ ∀ b n, f 5 = .sl b 0 n none → H.length ≤ b, ⟨l.length, 0, by simp, rfl, OutL.nil _, GrowH.refl H, nb⟩, ?_⟩
    rintro m f H' ⟨i, hi, h26, hout, hgr, hbs⟩
    simp only [h26, lssI, getP_some, splitB_iff, decide_eq_true_eq, decide_eq_false_iff_not, List.length_map]
    refine ⟨fun hlt => ?_, fun hlt => ?_⟩
    · have hlt : i < l.length := by omega
      have hgi := List.getElem?_eq_getElem hlt
      simp only [hol.iaddr (get_map hlt) (strs_cells l), getP_some, AV.cells, load_d1, is_1 ht, splitB_iff, add1 (show i < 4611686018427387904 by omega)]
      have hgr' := hgr.trans (GrowH.app H' [.arr 1 0 0 (ints [2])])
      refine ⟨fun e5 => ?_, fun e5 => ?_⟩
      · obtain ⟨v', H1, ho', hg', hb', hk⟩ := app1G hgr' (hout.grow [.arr 1 0 0 (ints [2])]) hbs l[i] (Nat.le_trans (filter_len _ _ _) hm)
        rw [hk]
        refine ⟨m - 1, by omega, i + 1, by omega, rfl, ?_, hg', hb'⟩
        rw [filter_take _ hgi, e5]; exact ho'
      · refine ⟨m - 1, by omega, i + 1, by omega, rfl, ?_, hgr', hbs⟩
        rw [filter_take _ hgi, e5]; simpa using hout.grow _
    · have : l.take i = l := by rw [List.take_of_length_le]; omega
      rw [this] at hout
      rw [Tab.poss, hg]
      exact tail113 hgr hout hbs (Nat.lt_of_le_of_lt (List.length_filter_le _ _) (by omega))
  · have e2 : t.kind n ≠ 2 := by simpa using e2
    have e3 : t.kind n ≠ 3 := by simpa using e3
    have e4 : t.kind n ≠ 4 := by simpa using e4
    have hg : t.poss o n = possR [] := by simp [Tab.poss, Tab.gather, e2, e3, e4]
    rw [hg]
    exact tail113 (GrowH.refl H) (OutL.nil _) nb (by simp)
/-! ### The document's look-up -/
def findT (l : List TDef) (n : Str) : TDef := if n ∈ fiveL then primDef n else (l.find? fun d => d.name == n).getD zeroDef
theorem r14 {a : AV} {l : List TDef} (ha : SLike a (l.map TDef.av)) (hg : ∀ d ∈ l, d.good) (hl : l.length ≤ 8796093022000) (n : Str) (H : Heap) : ∃ v', (∃ q, v' = .tup [(findT l n).av, .bool q]) ∧ Ret env 14 [a, .str n] H v' H := by
  have hna : AV.noIds a = true := by
    rw [ha.noIds]
    refine noIdsL_of fun v hv => ?_
    obtain ⟨d, hd, rfl⟩ := List.mem_map.1 hv
    exact TDef.noIds (hg d hd).ok
  have hn : AV.noIdsL [a, .str n] = true := by simp [AV.noIdsL, AV.noIds, hna]
  refine Ret.isoQ (f := c14) rfl rfl rfl (PubL.plain hn) (Eq.mpr (x14 _ _ _ _ _) ?_)
  rw [hn]
  show boxP (.agg [I 0, .str [], .nils, .nils, .nils, .nils, I 0]) [] _
  rw [boxP_agg _ _ _ (by simp [AV.isCell])]
  refine ⟨strs fiveL, rfl, ?_⟩
  show boxP (.agg [.str [], .str [], .str [], .str [], .str []]) [Blk.cells [I 0, .str [], .nils, .nils, .nils, .nils, I 0]] _
  rw [boxP_agg _ _ _ (by simp [AV.isCell])]
  refine ⟨_, store_cells0 (b := 1) (cs := [.str [], .str [], .str [], .str [], .str []]) rfl rfl rfl rfl, ?_⟩
  have fin : ∀ (d : TDef) (q : Bool), d.ok → AV.noIds d.av = true → ∃ v, Pub false ([Blk.cells d.av.cells, Blk.cells (strs fiveL)] : Heap) (.tup [d.av, .bool q]) v ∧ ∃ q', v = .tup [d.av, .bool q'] := fun d q _ hn => ⟨_, Pub.tup (.cons (Pub.plain hn) (.cons (.scalar rfl) .nil)), q, rfl⟩
  refine ⟨fun m f H' => ∃ i : Nat, i + m = 5 ∧ f 10 = I ↑i ∧ [Blk.cells [I 0, .str [], .nils, .nils, .nils, .nils, I 0], Blk.cells (strs fiveL)] = H' ∧ n ∉ fiveL.take i, ⟨5, 0, by simp, rfl, rfl, by simp⟩, ?_⟩
  rintro m f H' ⟨i, hi, h10, rfl, hni⟩
  rw [h10, lssI, getP_some, splitB_iff]
  refine ⟨fun hlt => ?_, fun hlt => ?_⟩
  · have hlt : i < fiveL.length := by have : (i : Int) < 5 := by simpa using hlt
                                      simp [fiveL]; omega
    have h5 : i < 5 := hlt
    have hgi := get_map (f := AV.str) hlt
    refine ⟨.ptr 1 (0 + i * 1), by simp [aaddrA, evNat, h5, szOf], .str fiveL[i], load_cells (b := 1) rfl (by rw [show 0 + i * 1 = i by omega]; exact hgi), _, eqlS _ _, splitB_bool (fun e => ?_) fun e => ?_⟩
    · have e : fiveL[i] = n := by simpa using e
      have hmem : n ∈ fiveL := e ▸ List.getElem_mem hlt
      refine ⟨_, rfl, _, store_cells0 (b := 0) (vs := (primDef n).av.cells) rfl rfl rfl rfl, (primDef n).av, load_cells0 (b := 0) rfl rfl, ?_⟩
      have : findT l n = primDef n := by simp [findT, hmem]
      rw [this]
      exact fin (primDef n) true (primDef_ok n (by rw [← e]; simp [fiveL] at h5 ⊢; match i, h5 with | 0, _ => simp | 1, _ => simp | 2, _ => simp | 3, _ => simp | 4, _ => simp)) (by simp [primDef, TDef.av, AV.noIds, AV.noIdsL, ostr])
    · have e : fiveL[i] ≠ n := by simpa using e
      rw [add1 (by omega), getP_some]
      refine ⟨m - 1, by omega, i + 1, by omega, rfl, rfl, ?_⟩
      rw [List.take_succ, List.getElem?_eq_getElem hlt]
      simp only [Option.toList_some, List.mem_append, List.mem_singleton, not_or]
      exact ⟨hni, fun q => e q.symm⟩
  · have hi5 : i = 5 := by have : ¬ (i : Int) < 5 := by simpa using hlt
                           omega
    subst hi5
    have hn5 : n ∉ fiveL := hni
    have hsz : ∀ x ∈ l.map TDef.av, x.cells.length = szOf (some 7) := by
      intro x hx
      obtain ⟨d, _, rfl⟩ := List.mem_map.1 hx
      rfl
    refine ⟨_, ha.len _, ?_⟩
    refine ⟨fun m f H' => ∃ i : Nat, i + m = l.length ∧ f 23 = I ↑i ∧ [Blk.cells [I 0, .str [], .nils, .nils, .nils, .nils, I 0], Blk.cells (strs fiveL)] = H' ∧ (l.find? fun d => d.name == n) = (l.drop i).find? fun d => d.name == n, ⟨l.length, 0, by simp, by rw [List.length_map] at *; rfl, rfl, rfl⟩, ?_⟩
    rintro m2 f2 H' ⟨i, hi, h23, rfl, hfd⟩
    rw [h23, lssI, getP_some, splitB_iff, List.length_map]
    refine ⟨fun hlt => ?_, fun hlt => ?_⟩
    · have hlt : i < l.length := by simpa using hlt
      have hgi := List.getElem?_eq_getElem hlt
      have hgood := hg l[i] (List.getElem_mem hlt)
      rw [drop_cons hgi, List.find?_cons] at hfd
      refine ⟨_, ha.iaddr (get_map hlt) hsz, _, rfl, .str l[i].name, rfl, _, eqlS _ _, splitB_bool (fun e => ?_) fun e => ?_⟩
      · rw [e] at hfd
        refine ⟨_, ha.iaddr (get_map hlt) hsz, l[i].av, rfl, _, store_cells0 (b := 0) (vs := l[i].av.cells) rfl rfl rfl (TDef.cells_all hgood), l[i].av, load_cells0 (b := 0) rfl rfl, ?_⟩
        have : findT l n = l[i] := by simp [findT, hn5, hfd]
        rw [this]
        exact fin l[i] true hgood.ok (TDef.noIds hgood.ok)
      · rw [e] at hfd
        rw [add1 (by omega), getP_some]
        exact ⟨m2 - 1, by omega, i + 1, by omega, rfl, rfl, hfd⟩
    · have hdr : l.drop i = [] := by simp; simpa using hlt
      rw [hdr] at hfd
      have : findT l n = zeroDef := by simp only [findT, hn5, if_false, hfd]; rfl
      rw [this]
      refine ⟨_, rfl, _, store_cells0 (b := 0) (vs := zeroDef.av.cells) rfl rfl rfl rfl, zeroDef.av, load_cells0 (b := 0) rfl rfl, ?_⟩
      exact fin zeroDef false zeroDef_ok (by simp [zeroDef, TDef.av, AV.noIds, AV.noIdsL, ostr])
end Go.AM.T

/- Contracts: a thing is the same as itself. -/
namespace Go.AM.T
set_option linter.unusedVariables false
set_option linter.unusedSimpArgs false
set_option maxRecDepth 100000

theorem neI (k : Int) {A B : AV → Prop} (h : B (.bool (k != k))) : getP (binop .neq (I k) (I k)) fun v => splitB v (A v) (B v) := ⟨_, neqI _ _ _, splitB_bool (fun e => by simp at e) fun _ => h⟩
theorem neS (s : Str) {A B : AV → Prop} (h : B (.bool (s != s))) : getP (binop .neq (.str s) (.str s)) fun v => splitB v (A v) (B v) := ⟨_, neqS _ _, splitB_bool (fun e => by simp at e) fun _ => h⟩
theorem r60 {fi : AV} {ys : List (Str × AV × Int)} (hf : SLike fi (ys.map argOf)) (hy : ∀ y ∈ ys, IsVal y.2.1) (hb : ys.length * 104 ≤ BIG) (ih : ∀ y ∈ ys, ∀ H, Ret env 42 [y.2.1, y.2.1, .bool true] H (.bool true) H) (hnf : AV.noIds fi = true) (H : Heap) : Ret env 60 [fi, fi, .bool true] H (.bool true) H := by
  have hn : AV.noIdsL [fi, fi, .bool true] = true := by simp [AV.noIdsL, AV.noIds, hnf]
  have hcy : ∀ y ∈ ys.map argOf, y.cells.length = szOf (some 7) := by
    intro y h
    obtain ⟨z, hz, rfl⟩ := List.mem_map.1 h
    exact argOf_cells z (hy z hz)
  refine Ret.isoX (f := c60) rfl rfl rfl (PubL.plain hn) (Eq.mpr (x60 _ _ _ _ _ _) ?_)
  refine ⟨_, hf.len _, _, hf.len _, neI _ ?_⟩
  refine ⟨_, hf.len _, ?_⟩
  refine ⟨fun n f H' => ∃ i : Nat, i + n = ys.length ∧ f 15 = I ↑i ∧ [] = H', ⟨ys.length, 0, by simp, rfl, rfl⟩, ?_⟩
  rintro n f H' ⟨i, hi', h15, rfl⟩
  rw [h15, lssI, getP_some, splitB_iff]
  refine ⟨fun hlt => ?_, fun hlt => Pub.scalar rfl⟩
  have hlt : i < ys.length := by simpa using hlt
  have hgx := get_map (f := argOf) hlt
  have hvx := hy ys[i] (List.getElem_mem hlt)
  have ea := hf.iaddr (k := .i64) hgx hcy
  have hsz : ys.length < 4611686018427387904 := by simp only [BIG] at hb; omega
  have hld : loadA none (.dptr ((argOf ys[i]).cells.drop 6)) [] = some (I ys[i].2.2) := by
    have e1 := hvx.cells.1
    show mkv none (List.drop 6 (AV.str ys[i].1 :: (ys[i].2.1.cells ++ [I ys[i].2.2]))) = _
    rw [List.drop_succ_cons, List.drop_append_of_le_length (by omega), ← e1, List.drop_length]; rfl
  refine ⟨by kernel_rfl, _, ea, _, rfl, .str ys[i].1, rfl, _, ea, _, rfl, .str ys[i].1, rfl, neS _ ?_⟩
  refine splitB_bool (fun _ => ?_) fun h => by cases h
  refine ⟨_, ea, _, rfl, _, hld, _, ea, _, rfl, _, hld, neI _ ?_⟩
  refine ⟨_, ea, _, rfl, ys[i].2.1, load_dp _ (mkv_append hvx.cells.1 hvx.cells.2), _, ea, _, rfl, ys[i].2.1, load_dp _ (mkv_append hvx.cells.1 hvx.cells.2), _, _, ih _ (List.getElem_mem hlt) _, _, rfl, ?_⟩
  refine ⟨trOk_quiet (by simp), ?_⟩
  refine splitB_bool (fun h => by cases h) fun _ => ?_
  rw [add1 (by omega), getP_some]
  exact ⟨n - 1, by omega, i + 1, by omega, rfl, rfl⟩
theorem r42 {v : AV} (h : IsVal v) : ∀ H, Ret env 42 [v, v, .bool true] H (.bool true) H := by
  induction h with
  | @mk k p s it fi xs ys hi hf hx hy bx by_ ihx ihy =>
  intro H
  have hv : IsVal (.agg [I k, .str s, it, fi, I p]) := .mk hi hf hx hy bx by_
  have hcx : ∀ x ∈ xs, x.cells.length = szOf (some 5) := fun x h => (hx x h).cells.1
  have hn : AV.noIdsL [.agg [I k, .str s, it, fi, I p], .agg [I k, .str s, it, fi, I p], .bool true] = true := by
    have := hv.noIds
    simp only [AV.noIdsL, this]; rfl
  have hnf : AV.noIds fi = true := by
    have := hv.noIds
    simp only [AV.noIds, AV.noIdsL, Bool.and_eq_true] at this
    exact this.2.2.2.1
  refine Ret.isoX (f := c42) rfl rfl rfl (PubL.plain hn) (Eq.mpr (x42 _ _ _ _ _ _) ?_)
  rw [boxP_agg _ _ _ (by simpa [AV.cells] using hv.allCell), boxP_agg _ _ _ (by simpa [AV.cells] using hv.allCell)]
  generalize hHH : ([] : Heap) ++ [Blk.cells [I k, .str s, it, fi, I p]] ++ [Blk.cells [I k, .str s, it, fi, I p]] = HH
  have g0 : HH[0]? = some (.cells [I k, .str s, it, fi, I p]) := by rw [← hHH]; rfl
  have g1 : HH[1]? = some (.cells [I k, .str s, it, fi, I p]) := by rw [← hHH]; rfl
  refine ⟨_, rfl, I k, load_cells g0 rfl, _, rfl, I k, load_cells g1 rfl, neI _ ?_⟩
  refine ⟨_, rfl, .str s, load_cells g0 rfl, _, rfl, .str s, load_cells g1 rfl, neS _ ?_⟩
  refine ⟨_, rfl, it, load_cells g0 rfl, _, hi.len _, _, rfl, it, load_cells g1 rfl, _, hi.len _, neI _ ?_⟩
  refine splitB_bool (fun _ => ?_) fun h => by cases h
  refine ⟨_, rfl, I p, load_cells g0 rfl, _, rfl, I p, load_cells g1 rfl, neI _ ?_⟩
  refine ⟨_, rfl, it, load_cells g0 rfl, _, hi.len _, ?_⟩
  refine ⟨fun n f H' => ∃ i : Nat, i + n = xs.length ∧ f 42 = I ↑i ∧ HH = H', ⟨xs.length, 0, by simp, rfl, rfl⟩, ?_⟩
  rintro n f H' ⟨i, hi', h42, rfl⟩
  rw [h42, lssI, getP_some, splitB_iff]
  refine ⟨fun hlt => ?_, fun hlt => ?_⟩
  · have hlt : i < xs.length := by simpa using hlt
    have hgx := List.getElem?_eq_getElem hlt
    have hvx := hx xs[i] (List.getElem_mem hlt)
    have ea := hi.iaddr (k := .i64) hgx hcx
    have hsz : xs.length < 4611686018427387904 := by simp only [BIG] at bx; omega
    refine ⟨by kernel_rfl, _, rfl, it, load_cells g0 rfl, _, ea, xs[i], load_dp _ hvx.cells.2, _, rfl, it, load_cells g1 rfl, _, ea, xs[i], load_dp _ hvx.cells.2, _, _, ihx _ (List.getElem_mem hlt) _, _, rfl, ?_⟩
    refine ⟨trOk_quiet (by simp), ?_⟩
    refine splitB_bool (fun h => by cases h) fun _ => ?_
    rw [add1 (by omega), getP_some]
    exact ⟨n - 1, by omega, i + 1, by omega, rfl, rfl⟩
  · refine ⟨_, rfl, fi, load_cells g0 rfl, _, rfl, fi, load_cells g1 rfl, _, _, r60 hf hy by_ ihy hnf _, ?_⟩
    exact Pub.scalar rfl
theorem neB (b : Bool) {A B : AV → Prop} (h : B (.bool ((b == b) != true))) : getP (eqA .base true (.bool b) (.bool b)) fun v => splitB v (A v) (B v) := ⟨_, rfl, splitB_bool (fun e => by simp at e) fun _ => h⟩
theorem r36 {a : AV} (h : IsIns a) (H : Heap) : Ret env 36 [a, a, .bool true] H (.bool true) H := by
  have hna := h.noIds
  obtain ⟨zs, h1, h2, h3⟩ := h
  have hcz : ∀ z ∈ zs.map InD.av, z.cells.length = szOf (some 9) := by
    intro y h
    obtain ⟨z, hz, rfl⟩ := List.mem_map.1 h
    exact z.cells (h2 z hz)
  have hn : AV.noIdsL [a, a, .bool true] = true := by simp [AV.noIdsL, AV.noIds, hna]
  refine Ret.isoX (f := c36) rfl rfl rfl (PubL.plain hn) (Eq.mpr (x36 _ _ _ _ _ _) ?_)
  refine ⟨_, h1.len _, _, h1.len _, neI _ ?_⟩
  refine ⟨_, h1.len _, ?_⟩
  refine ⟨fun n f H' => ∃ i : Nat, i + n = zs.length ∧ f 15 = I ↑i ∧ [] = H', ⟨zs.length, 0, by simp, rfl, rfl⟩, ?_⟩
  rintro n f H' ⟨i, hi', h15, rfl⟩
  rw [h15, lssI, getP_some, splitB_iff]
  refine ⟨fun hlt => ?_, fun hlt => Pub.scalar rfl⟩
  have hlt : i < zs.length := by simpa using hlt
  have hgx := get_map (f := InD.av) hlt
  have hvx := h2 zs[i] (List.getElem_mem hlt)
  have ea := h1.iaddr (k := .i64) hgx hcz
  have hsz : zs.length < 4611686018427387904 := by simp only [BIG] at h3; omega
  have hld : loadA none (.dptr ((zs[i].av).cells.drop 8)) [] = some (I zs[i].p) := by
    have e1 := hvx.cells.1
    show mkv none (List.drop 8 (AV.str zs[i].n :: .str zs[i].t :: .bool zs[i].has :: (zs[i].v.cells ++ [I zs[i].p]))) = _
    rw [List.drop_succ_cons, List.drop_succ_cons, List.drop_succ_cons, List.drop_append_of_le_length (by omega), ← e1, List.drop_length]; rfl
  refine ⟨by kernel_rfl, _, ea, _, rfl, .str zs[i].n, rfl, _, ea, _, rfl, .str zs[i].n, rfl, neS _ ?_⟩
  refine ⟨_, ea, _, rfl, .str zs[i].t, rfl, _, ea, _, rfl, .str zs[i].t, rfl, neS _ ?_⟩
  refine ⟨_, ea, _, rfl, .bool zs[i].has, rfl, _, ea, _, rfl, .bool zs[i].has, rfl, neB _ ?_⟩
  refine splitB_bool (fun _ => ?_) fun h => by cases h
  refine ⟨_, ea, _, rfl, _, hld, _, ea, _, rfl, _, hld, neI _ ?_⟩
  refine ⟨_, ea, _, rfl, zs[i].v, load_dp _ (mkv_append hvx.cells.1 hvx.cells.2), _, ea, _, rfl, zs[i].v, load_dp _ (mkv_append hvx.cells.1 hvx.cells.2), _, _, r42 hvx _, _, rfl, ?_⟩
  refine ⟨trOk_quiet (by simp), ?_⟩
  refine splitB_bool (fun h => by cases h) fun _ => ?_
  rw [add1 (by omega), getP_some]
  exact ⟨n - 1, by omega, i + 1, by omega, rfl, rfl⟩
end Go.AM.T

/- Contracts: a type is the same as itself, whether its lists of texts are nil or empty. -/
namespace Go.AM.T
set_option linter.unusedVariables false
set_option linter.unusedSimpArgs false
set_option maxRecDepth 100000

/-- The same, but for lists of texts that are nil or empty. -/
structure Alike (d e : TDef) : Prop where
  k : d.kind = e.kind
  n : d.name = e.name
  im : d.impl.getD [] = e.impl.getD []
  f : d.fields = e.fields
  me : d.mem.getD [] = e.mem.getD []
  i : d.inputs = e.inputs
  p : d.pos = e.pos
theorem r9same {o q : Option (List Str)} (h : o.getD [] = q.getD []) (hl : ShortL (q.getD [])) (H : Heap) : Ret env 9 [ostr o, ostr q] H (.bool true) H := by
  have := r9 (ostr_like o) (ostr_like q) (by rw [h]; exact hl) hl (args := [ostr o, ostr q]) (H := H) (PubL.plain (by simp [AV.noIdsL, ostr_noIds]))
  rw [h] at this
  simpa using this
theorem r15 {d e : TDef} (hd : d.good) (he : e.good) (hde : Alike d e) {a b : AV} (ha : a = .data [d.av]) (hb : b = .data [e.av]) {args : List AV} {H : Heap} (hp : PubL H args [a, b, .bool true]) : Ret env 15 args H (.bool true) H := by
  have la : SLike a [d.av] := .inr ha
  have lb : SLike b [e.av] := .inr hb
  refine Ret.isoX (f := c15) rfl rfl rfl hp (Eq.mpr (x15 _ _ _ _ _ _) ?_)
  have hsz : ∀ (z : TDef), ∀ x ∈ [z.av], x.cells.length = szOf (some 7) := by
    intro z x hx
    simp at hx; subst hx; rfl
  refine ⟨_, la.len _, _, lb.len _, neI _ ?_⟩
  refine ⟨_, la.len _, ?_⟩
  refine ⟨fun n f H' => ∃ i : Nat, i + n = 1 ∧ f 20 = I ↑i, ⟨1, 0, by simp, rfl⟩, ?_⟩
  rintro n f H3 ⟨i, hi, h20⟩
  rw [h20, lssI, getP_some, splitB_iff]
  refine ⟨fun hlt => ?_, fun hlt => Pub.scalar rfl⟩
  have hi0 : i = 0 := by have : (i : Int) < 1 := by simpa using hlt
                         omega
  subst hi0
  refine ⟨by kernel_rfl, _, la.iaddr (i := 0) rfl (hsz d), d.av, rfl, _, lb.iaddr (i := 0) rfl (hsz e), e.av, rfl, ?_⟩
  show boxP (.agg [I 0, .str [], .nils, .nils, .nils, .nils, I 0]) H3 _
  rw [boxP_agg _ _ _ (by simp [AV.isCell]), boxP_agg _ _ _ (by simp [AV.isCell])]
  have z0 : (H3 ++ [Blk.cells [I 0, .str [], .nils, .nils, .nils, .nils, I 0]] ++ [Blk.cells [AV.int .i64 0, .str [], .nils, .nils, .nils, .nils, AV.int .i64 0]])[H3.length]? = some (.cells [I 0, .str [], .nils, .nils, .nils, .nils, I 0]) := by simp
  have ln : (H3 ++ [Blk.cells [I 0, .str [], .nils, .nils, .nils, .nils, I 0]]).length = H3.length + 1 := by simp
  have z1 : (H3 ++ [Blk.cells [I 0, .str [], .nils, .nils, .nils, .nils, I 0]] ++ [Blk.cells [AV.int .i64 0, .str [], .nils, .nils, .nils, .nils, AV.int .i64 0]])[H3.length + 1]? = some (.cells [I 0, .str [], .nils, .nils, .nils, .nils, I 0]) := by simp
  have gl : (H3 ++ [Blk.cells [I 0, .str [], .nils, .nils, .nils, .nils, I 0]] ++ [Blk.cells [AV.int .i64 0, .str [], .nils, .nils, .nils, .nils, AV.int .i64 0]]).length = H3.length + 2 := by simp
  have gl3 : H3.length ≤ (H3 ++ [Blk.cells [I 0, .str [], .nils, .nils, .nils, .nils, I 0]]).length := by simp
  have gl4 : (H3 ++ [Blk.cells [I 0, .str [], .nils, .nils, .nils, .nils, I 0]]).length ≤ (H3 ++ [Blk.cells [I 0, .str [], .nils, .nils, .nils, .nils, I 0]] ++ [Blk.cells [AV.int .i64 0, .str [], .nils, .nils, .nils, .nils, AV.int .i64 0]]).length := by simp
  rw [show ((H3 ++ [Blk.cells [AV.int .i64 0, .str [], .nils, .nils, .nils, .nils, AV.int .i64 0]]).length) = H3.length + 1 from ln]
  refine ⟨_, store_cells0 z0 rfl rfl (TDef.cells_all hd), _, store_cells0 (b := H3.length + 1) (by rw [List.getElem?_set_ne (by omega)]; exact z1) rfl rfl (TDef.cells_all he), ?_⟩
  refine ⟨trOk_two [] [0, 1, 2, 3, 4, 5, 6, 7, 8, 9, 10, 11] (by kernel_rfl) ?_ (by simp) ?_, ?_⟩
  · intro tr htr
    simp only [List.mem_cons, List.not_mem_nil, or_false] at htr
    rcases htr with rfl | rfl | rfl | rfl | rfl | rfl | rfl | rfl | rfl | rfl | rfl | rfl <;> simp only [Nat.le_refl, List.length_set] <;> assumption
  · intro k hk tr htr
    simp at hk
    rcases hk with rfl | rfl | rfl | rfl | rfl | rfl | rfl | rfl | rfl | rfl | rfl | rfl <;> (simp only [List.getElem?_cons_zero, List.getElem?_cons_succ, Option.some.injEq] at htr; subst htr; rfl)
  have w0 : (((H3 ++ [Blk.cells [I 0, .str [], .nils, .nils, .nils, .nils, I 0]] ++ [Blk.cells [AV.int .i64 0, .str [], .nils, .nils, .nils, .nils, AV.int .i64 0]]).set H3.length (.cells d.av.cells)).set (H3.length + 1) (.cells e.av.cells))[H3.length]? = some (.cells [I d.kind, .str d.name, ostr d.impl, d.fields, ostr d.mem, d.inputs, I d.pos]) := by
    rw [List.getElem?_set_ne (by omega), List.getElem?_set_self (by omega)]; rfl
  have w1 : (((H3 ++ [Blk.cells [I 0, .str [], .nils, .nils, .nils, .nils, I 0]] ++ [Blk.cells [AV.int .i64 0, .str [], .nils, .nils, .nils, .nils, AV.int .i64 0]]).set H3.length (.cells d.av.cells)).set (H3.length + 1) (.cells e.av.cells))[H3.length + 1]? = some (.cells [I e.kind, .str e.name, ostr e.impl, e.fields, ostr e.mem, e.inputs, I e.pos]) := by
    rw [List.getElem?_set_self (by rw [List.length_set]; omega)]; rfl
  show getP (faddrA 0 (.ptr H3.length 0)) _
  generalize hH20 : ((H3 ++ [Blk.cells [I 0, .str [], .nils, .nils, .nils, .nils, I 0]] ++ [Blk.cells [AV.int .i64 0, .str [], .nils, .nils, .nils, .nils, AV.int .i64 0]]).set H3.length (.cells d.av.cells)).set (H3.length + 1) (.cells e.av.cells) = G at w0 w1
  have hG : ((H3 ++ [Blk.cells [I 0, .str [], .nils, .nils, .nils, .nils, I 0]] ++ [Blk.cells [AV.int .i64 0, .str [], .nils, .nils, .nils, .nils, AV.int .i64 0]]).set H3.length (.cells [I d.kind, .str d.name, ostr d.impl, d.fields, ostr d.mem, d.inputs, I d.pos])).set (H3.length + 1) (.cells [I e.kind, .str e.name, ostr e.impl, e.fields, ostr e.mem, e.inputs, I e.pos]) = G := hH20
  obtain ⟨hk, hn, him, hf, hme, hin, hpo⟩ := hde
  rw [← hk, ← hn, ← hf, ← hin, ← hpo] at w1
  obtain ⟨fs, q1, q2, q3⟩ := hd.f
  refine ⟨_, rfl, I d.kind, load_cells (hG ▸ w0) rfl, _, rfl, I d.kind, load_cells (hG ▸ w1) rfl, neI _ ?_⟩
  refine ⟨_, rfl, .str d.name, load_cells (hG ▸ w0) rfl, _, rfl, .str d.name, load_cells (hG ▸ w1) rfl, neS _ ?_⟩
  refine splitB_bool (fun _ => ?_) fun h => by cases h
  refine ⟨_, rfl, I d.pos, load_cells (hG ▸ w0) rfl, _, rfl, I d.pos, load_cells (hG ▸ w1) rfl, neI _ ?_⟩
  refine ⟨_, rfl, ostr d.impl, load_cells (hG ▸ w0) rfl, _, rfl, ostr e.impl, load_cells (hG ▸ w1) rfl, _, _, r9same him he.ok.impl _, _, rfl, splitB_bool (fun h => by cases h) fun _ => ?_⟩
  refine ⟨_, rfl, ostr d.mem, load_cells (hG ▸ w0) rfl, _, rfl, ostr e.mem, load_cells (hG ▸ w1) rfl, _, _, r9same hme he.ok.mem _, _, rfl, splitB_bool (fun h => by cases h) fun _ => ?_⟩
  refine ⟨_, rfl, d.inputs, load_cells (hG ▸ w0) rfl, _, rfl, d.inputs, load_cells (hG ▸ w1) rfl, _, _, r36 hd.i _, _, rfl, splitB_bool (fun h => by cases h) fun _ => ?_⟩
  refine ⟨_, rfl, d.fields, load_cells (hG ▸ w0) rfl, _, q1.len _, _, rfl, d.fields, load_cells (hG ▸ w1) rfl, _, q1.len _, neI _ ?_⟩
  refine ⟨_, rfl, d.fields, load_cells (hG ▸ w0) rfl, _, q1.len _, ?_⟩
  refine ⟨fun n f Hc => ∃ j : Nat, j + n = fs.length ∧ f 90 = I ↑j ∧ GrowH G Hc, ⟨fs.length, 0, by simp, by rw [List.length_map] at *; rfl, hG ▸ GrowH.refl _⟩, ?_⟩
  rintro n2 f2 Hc ⟨j, hj, h90, gr⟩
  have w0' := gr.at w0
  have w1' := gr.at w1
  rw [h90, lssI, getP_some, splitB_iff]
  refine ⟨fun hlt2 => ?_, fun hlt2 => ?_⟩
  · have hlt2 : j < fs.length := by simpa using hlt2
    have hgx := get_map (f := FieldD.av) hlt2
    have hvx := q2 fs[j] (List.getElem_mem hlt2)
    have hcf : ∀ z ∈ fs.map FieldD.av, z.cells.length = szOf (some 4) := by
      intro y h
      obtain ⟨z, hz, rfl⟩ := List.mem_map.1 h
      rfl
    have hcl : ([AV.str fs[j].n, fs[j].args, .str fs[j].t, I fs[j].p] : List AV).all AV.isCell = true := by simp [hvx.cell]; simp [AV.isCell]
    refine ⟨by kernel_rfl, _, rfl, d.fields, load_cells w0' rfl, _, q1.iaddr hgx hcf, fs[j].av, rfl, _, rfl, d.fields, load_cells w1' rfl, _, q1.iaddr hgx hcf, fs[j].av, rfl, ?_⟩
    show boxP (.agg [.str [], .nils, .str [], I 0]) Hc _
    rw [boxP_agg _ _ _ (by simp [AV.isCell]), boxP_agg _ _ _ (by simp [AV.isCell])]
    have lnc : (Hc ++ [Blk.cells [.str [], .nils, .str [], I 0]]).length = Hc.length + 1 := by simp
    have y0 : (Hc ++ [Blk.cells [.str [], .nils, .str [], I 0]] ++ [Blk.cells [.str [], .nils, .str [], AV.int .i64 0]])[Hc.length]? = some (.cells [.str [], .nils, .str [], I 0]) := by simp
    have y1 : (Hc ++ [Blk.cells [.str [], .nils, .str [], I 0]] ++ [Blk.cells [.str [], .nils, .str [], AV.int .i64 0]])[Hc.length + 1]? = some (.cells [.str [], .nils, .str [], I 0]) := by simp
    have yl : (Hc ++ [Blk.cells [.str [], .nils, .str [], I 0]] ++ [Blk.cells [.str [], .nils, .str [], AV.int .i64 0]]).length = Hc.length + 2 := by simp
    have gg : GrowH Hc (Hc ++ [Blk.cells [.str [], .nils, .str [], I 0]] ++ [Blk.cells [.str [], .nils, .str [], AV.int .i64 0]]) := (GrowH.app Hc _).trans (GrowH.app _ _)
    have le1 : Hc.length ≤ (Hc ++ [Blk.cells [.str [], .nils, .str [], I 0]]).length := by simp
    have le2 : (Hc ++ [Blk.cells [.str [], .nils, .str [], I 0]]).length ≤ (Hc ++ [Blk.cells [.str [], .nils, .str [], I 0]] ++ [Blk.cells [.str [], .nils, .str [], AV.int .i64 0]]).length := by simp
    rw [show ((Hc ++ [Blk.cells [.str [], .nils, .str [], AV.int .i64 0]]).length) = Hc.length + 1 from lnc]
    refine ⟨_, store_cells0 y0 rfl rfl hcl, _, store_cells0 (b := Hc.length + 1) (by rw [List.getElem?_set_ne (by omega)]; exact y1) rfl rfl hcl, ?_⟩
    have hb0 : H3.length < Hc.length := (List.getElem?_eq_some_iff.1 w0').1
    have hb1 : H3.length + 1 < Hc.length := (List.getElem?_eq_some_iff.1 w1').1
    have key : ∀ (b k : Nat) (x : Blk) (HH : Heap), b < Hc.length → Hc.length ≤ k → (HH.set k x)[b]? = HH[b]? := fun b k x HH h1 h2 => by rw [List.getElem?_set_ne (by omega)]
    refine ⟨trOk_three [0, 2, 3, 4, 5, 7, 8, 9, 10, 11, 12, 13] [(6, 12), (1, 12), (6, 13), (1, 13)] (by kernel_rfl) ?_ ?_ ?_, ?_⟩
    · intro tr htr
      simp only [List.mem_cons, List.not_mem_nil, or_false] at htr
      rcases htr with rfl | rfl | rfl | rfl | rfl | rfl | rfl | rfl | rfl | rfl | rfl | rfl | rfl | rfl <;> simp only [Nat.le_refl, List.length_set] <;> assumption
    · intro p hp'
      simp only [List.mem_cons, List.not_mem_nil, or_false] at hp'
      rcases hp' with rfl | rfl | rfl | rfl
      · simp only [pairOk, List.getElem?_cons_zero, List.getElem?_cons_succ, ROp.foot, RX.ev, List.getD_cons_zero, key _ _ _ _ hb1 (Nat.le_refl _)]; simp
      · simp only [pairOk, List.getElem?_cons_zero, List.getElem?_cons_succ, ROp.foot, RX.ev, List.getD_cons_zero, key _ _ _ _ hb0 (Nat.le_refl _)]; simp
      · simp only [pairOk, List.getElem?_cons_zero, List.getElem?_cons_succ, ROp.foot, RX.ev, List.getD_cons_zero, key _ _ _ _ hb1 (Nat.le_succ _)]; simp
      · simp only [pairOk, List.getElem?_cons_zero, List.getElem?_cons_succ, ROp.foot, RX.ev, List.getD_cons_zero, key _ _ _ _ hb0 (Nat.le_succ _)]; simp
    · intro k hk' tr htr
      simp at hk'
      rcases hk' with rfl | rfl | rfl | rfl | rfl | rfl | rfl | rfl | rfl | rfl | rfl | rfl <;> (simp only [List.getElem?_cons_zero, List.getElem?_cons_succ, Option.some.injEq] at htr; subst htr; rfl)
    have x0 : (((Hc ++ [Blk.cells [.str [], .nils, .str [], I 0]] ++ [Blk.cells [.str [], .nils, .str [], AV.int .i64 0]]).set Hc.length (.cells [AV.str fs[j].n, fs[j].args, .str fs[j].t, I fs[j].p])).set (Hc.length + 1) (.cells [AV.str fs[j].n, fs[j].args, .str fs[j].t, I fs[j].p]))[Hc.length]? = some (.cells [AV.str fs[j].n, fs[j].args, .str fs[j].t, I fs[j].p]) := by
      rw [List.getElem?_set_ne (by omega), List.getElem?_set_self (by omega)]
    have x1 : (((Hc ++ [Blk.cells [.str [], .nils, .str [], I 0]] ++ [Blk.cells [.str [], .nils, .str [], AV.int .i64 0]]).set Hc.length (.cells [AV.str fs[j].n, fs[j].args, .str fs[j].t, I fs[j].p])).set (Hc.length + 1) (.cells [AV.str fs[j].n, fs[j].args, .str fs[j].t, I fs[j].p]))[Hc.length + 1]? = some (.cells [AV.str fs[j].n, fs[j].args, .str fs[j].t, I fs[j].p]) := by
      rw [List.getElem?_set_self (by rw [List.length_set]; omega)]
    have gX : GrowH Hc (((Hc ++ [Blk.cells [.str [], .nils, .str [], I 0]] ++ [Blk.cells [.str [], .nils, .str [], AV.int .i64 0]]).set Hc.length (.cells [AV.str fs[j].n, fs[j].args, .str fs[j].t, I fs[j].p])).set (Hc.length + 1) (.cells [AV.str fs[j].n, fs[j].args, .str fs[j].t, I fs[j].p])) :=
      ⟨by simp only [List.length_set]; exact gg.1, fun c hc => by rw [key _ _ _ _ hc (Nat.le_succ _), key _ _ _ _ hc (Nat.le_refl _)]; exact gg.2 c hc⟩
    refine ⟨_, rfl, .str fs[j].n, load_cells x0 rfl, _, rfl, .str fs[j].n, load_cells x1 rfl, neS _ ?_⟩
    refine ⟨_, rfl, .str fs[j].t, load_cells x0 rfl, _, rfl, .str fs[j].t, load_cells x1 rfl, neS _ ?_⟩
    refine splitB_bool (fun _ => ?_) fun h => by cases h
    refine ⟨_, rfl, I fs[j].p, load_cells x0 rfl, _, rfl, I fs[j].p, load_cells x1 rfl, neI _ ?_⟩
    refine ⟨_, rfl, fs[j].args, load_cells x0 rfl, _, rfl, fs[j].args, load_cells x1 rfl, _, _, r36 hvx _, _, rfl, splitB_bool (fun h => by cases h) fun _ => ?_⟩
    have hfl : fs.length < 4611686018427387904 := by simp only [BIG] at q3; omega
    rw [add1 (by omega), getP_some]
    exact ⟨n2 - 1, by omega, j + 1, by omega, rfl, gr.trans gX⟩
  · rw [add1 (by omega), getP_some]
    exact ⟨0, by omega, 1, by omega, rfl⟩
end Go.AM.T

/- What TypesOwn does with memory of its own: the pieces. -/
namespace Go.AM.T
set_option linter.unusedVariables false
set_option linter.unusedSimpArgs false
set_option maxRecDepth 100000

theorem pub_down (H : Heap) : ∀ k, (∀ v r, AM.pub true k H v = some r → AM.pub false k H v = some r) ∧ (∀ v r, pubL true k H v = some r → pubL false k H v = some r)
  | 0 => ⟨fun v r h => by simp [AM.pub] at h, fun v r h => by simp [pubL] at h⟩
  | k + 1 => by
    obtain ⟨i1, i2⟩ := pub_down H k
    have mp : ∀ {vs : List AV} {f : List AV → AV} {r : AV}, (pubL true k H vs).map f = some r → (pubL false k H vs).map f = some r := by
      intro vs f r h
      obtain ⟨p, h1, h2⟩ := Option.map_eq_some_iff.1 h
      rw [i2 _ _ h1, Option.map_some, h2]
    constructor
    · intro v r h
      rw [pub.eq_def] at h ⊢
      cases v <;> simp only at h ⊢
      case ptr b off =>
        split at h
        · skip
          split at h
          · rename_i ho; rw [if_pos ho]; exact mp h
          · cases h
        · skip
          split at h
          · rename_i ho; rw [if_pos ho]; exact mp h
          · cases h
        · cases h
      case sl b off len sh =>
        split at h
        · skip
          split at h
          · rename_i ho; rw [if_pos ho]
            obtain ⟨p, h1, h2⟩ := Option.bind_eq_some_iff.1 h
            rw [i2 _ _ h1, Option.bind_some, h2]
          · cases h
        · cases h
      case map b =>
        split at h
        · skip
          obtain ⟨p, h1, h2⟩ := Option.bind_eq_some_iff.1 h
          rw [i2 _ _ h1, Option.bind_some]; exact mp h2
        · cases h
      case fn g cp => exact mp h
      case agg cs => exact mp h
      case tup cs => exact mp h
      case iface t v =>
        obtain ⟨p, h1, h2⟩ := Option.map_eq_some_iff.1 h
        rw [i1 _ _ h1, Option.map_some, h2]
      case dptr cs => simp at h
      case data xs => simp at h
      case dmap ks vs => simp at h
      all_goals exact h
    · intro v r h
      cases v with
      | nil => simpa [pubL] using h
      | cons v q =>
        rw [pubL] at h ⊢
        obtain ⟨p, h1, h2⟩ := Option.bind_eq_some_iff.1 h
        rw [i1 _ _ h1, Option.bind_some]
        obtain ⟨p2, h3, h4⟩ := Option.map_eq_some_iff.1 h2
        rw [i2 _ _ h3, Option.map_some, h4]
theorem Pub_down {H : Heap} {v r : AV} (h : Pub true H v r) : Pub false H v r := by
  obtain ⟨k, hk⟩ := h
  exact ⟨k, fun k' hk' => (pub_down H k').1 _ _ (hk k' hk')⟩
/-- Everything appended to a new empty slice. -/
theorem app_all {sh : Option Nat} {bytes : Nat} {zero : List AV} {a : AV} {xs : List AV} (ha : SLike a xs) (hc : ∀ x ∈ xs, x.cells.length = szOf sh) (hl : xs.length * bytes ≤ BIG) (hx : xs.length < 9223372036854775808) (H : Heap) :
    ∃ b H', GrowH H H' ∧ H.length ≤ b ∧ H'[b]? = some (.arr (szOf sh) 0 0 (xs.flatMap AV.cells)) ∧ ∀ Q : AV → Heap → AV → Heap → Prop, Q (.sl H.length 0 0 sh) (H ++ [Blk.arr (szOf sh) 0 0 []]) (.sl b 0 xs.length sh) H' → sliceP sh 0 0 zero [] H fun v2 h3 => get2 (appA sh 0 bytes v2 a h3) (Q v2 h3) := by
  have he : elemsOf (szOf sh) (H ++ [Blk.arr (szOf sh) 0 0 []]) a = some (xs.flatMap AV.cells, xs.length) := by
    rcases ha with ⟨rfl, rfl⟩ | rfl
    · rfl
    · have : xs.all (fun x => x.cells.length == szOf sh) = true := by simpa using hc
      simp [elemsOf, this]
  by_cases h0 : xs.length = 0
  · have hz : xs = [] := List.eq_nil_of_length_eq_zero h0
    have e : appA sh 0 bytes (.sl H.length 0 0 sh) a (H ++ [Blk.arr (szOf sh) 0 0 []]) = some (.sl H.length 0 0 sh, H ++ [Blk.arr (szOf sh) 0 0 []]) := by
      simp [appA, he, appendA, h0]
    refine ⟨H.length, H ++ [Blk.arr (szOf sh) 0 0 []], GrowH.app H _, Nat.le_refl _, by simp [hz], fun Q hQ => ⟨[], rfl, ?_⟩⟩
    show get2 _ _
    rw [e, get2_some]
    rw [h0] at hQ; exact hQ
  · have e : appA sh 0 bytes (.sl H.length 0 0 sh) a (H ++ [Blk.arr (szOf sh) 0 0 []]) = some (.sl (H.length + 1) 0 xs.length sh, H ++ [.dead] ++ [Blk.arr (szOf sh) 0 0 (xs.flatMap AV.cells)]) := by
      simp only [BIG] at hl
      simp [appA, he, appendA, h0, hl, hx]
    refine ⟨H.length + 1, H ++ [.dead] ++ [Blk.arr (szOf sh) 0 0 (xs.flatMap AV.cells)], (GrowH.app H _).trans (GrowH.app _ _), by omega, by simp, fun Q hQ => ⟨[], rfl, ?_⟩⟩
    show get2 _ _
    rw [e, get2_some]
    exact hQ
theorem appO2 {H : Heap} {b : Nat} (hb : H[b]? = some (.arr 1 0 0 [])) (o : Option (List Str)) (hl : (o.getD []).length ≤ 8796093022000) :
    ∃ b' H', appA none 0 16 (.sl b 0 0 none) (ostr o) H = some (.sl b' 0 (o.getD []).length none, H') ∧ H'[b']? = some (.arr 1 0 0 (strs (o.getD []))) ∧ H.length ≤ H'.length ∧ (∀ (c : Nat) (x : Blk), c ≠ b → H[c]? = some x → H'[c]? = some x) ∧ (b' = b ∨ H.length ≤ b') := by
  have he : elemsOf 1 H (ostr o) = some (strs (o.getD []), (o.getD []).length) := by
    cases o with
    | none => rfl
    | some m =>
      have : (strs m).all (fun x => x.cells.length == 1) = true := by simp [AV.cells]
      simp only [ostr, elemsOf, this, if_true, Option.getD_some, strs_flat, List.length_map]
  by_cases h0 : (o.getD []).length = 0
  · have hz : o.getD [] = [] := List.eq_nil_of_length_eq_zero h0
    refine ⟨b, H, ?_, by rw [hz]; exact hb, Nat.le_refl _, fun _ _ _ h => h, .inl rfl⟩
    simp [appA, szOf, he, appendA, hz]
  · have h1 : (0 + (o.getD []).length) * 16 ≤ 140737488355328 := by omega
    have h2 : 0 + (o.getD []).length < 9223372036854775808 := by omega
    refine ⟨H.length, H.set b .dead ++ [.arr 1 0 0 (strs (o.getD []))], ?_, ?_, by simp, ?_, .inr (Nat.le_refl _)⟩
    · simp only [appA, szOf, Option.getD_none, he, appendA, if_true, h0, if_false, hb, Nat.mul_one, Nat.zero_add, List.length_map, Nat.zero_le, Nat.le_refl, h1, h2, and_self, Nat.zero_sub, List.drop_zero, List.length_nil]
      rw [if_pos ⟨trivial, trivial, trivial, trivial, by omega, by omega⟩]; simp
    · rw [List.getElem?_append_right (by simp)]; simp
    · intro c x hc hx
      refine getElem?_grow ?_ _
      rw [List.getElem?_set_ne (Ne.symm hc)]; exact hx
/-- A slice of texts that can be written: not in block b, below m. -/
def WS (H : Heap) (b m : Nat) (v : AV) : Prop := ∃ c L cs, v = .sl c 0 L none ∧ c ≠ b ∧ c < m ∧ H[c]? = some (.arr 1 0 0 cs) ∧ cs.length = L ∧ L < 4611686018427387904
def InA (H : Heap) (b n m : Nat) : Prop := ∃ ys : List AV, ys.length = n ∧ H[b]? = some (.arr 7 0 0 (ys.flatMap AV.cells)) ∧ b < m ∧ ∀ (j : Nat) (y : AV), ys[j]? = some y → ∃ x0 x1 sI x3 sM x5 x6, y = .agg [x0, x1, sI, x3, sM, x5, x6] ∧ WS H b m sI ∧ WS H b m sM
theorem WS.write {H : Heap} {b m : Nat} {v : AV} (h : WS H b m v) {c : Nat} {cs cs' : List AV} (hc : H[c]? = some (.arr 1 0 0 cs)) (hl : cs'.length = cs.length) : WS (H.set c (.arr 1 0 0 cs')) b m v := by
  obtain ⟨c2, L, cs2, e, h1, h2, h3, h4, h5⟩ := h
  by_cases hcc : c = c2
  · subst hcc
    rw [hc] at h3; cases h3
    exact ⟨c, L, cs', e, h1, h2, by rw [List.getElem?_set_self (List.getElem?_eq_some_iff.1 hc).1], by omega, h5⟩
  · exact ⟨c2, L, cs2, e, h1, h2, by rw [List.getElem?_set_ne hcc]; exact h3, h4, h5⟩
theorem InA.write {H : Heap} {b n m : Nat} (h : InA H b n m) {c : Nat} {cs cs' : List AV} (hcb : c ≠ b) (hc : H[c]? = some (.arr 1 0 0 cs)) (hl : cs'.length = cs.length) : InA (H.set c (.arr 1 0 0 cs')) b n m := by
  obtain ⟨ys, h1, h2, h3, h4⟩ := h
  refine ⟨ys, h1, by rw [List.getElem?_set_ne hcb]; exact h2, h3, fun j y hy => ?_⟩
  obtain ⟨x0, x1, sI, x3, sM, x5, x6, e, w1, w2⟩ := h4 j y hy
  exact ⟨x0, x1, sI, x3, sM, x5, x6, e, w1.write hc hl, w2.write hc hl⟩
theorem WS.setb {H : Heap} {b m : Nat} {v : AV} (h : WS H b m v) (x : Blk) : WS (H.set b x) b m v := by
  obtain ⟨c2, L, cs2, e, h1, h2, h3, h4, h5⟩ := h
  exact ⟨c2, L, cs2, e, h1, h2, by rw [List.getElem?_set_ne (Ne.symm h1)]; exact h3, h4, h5⟩
theorem flat_set {n : Nat} : ∀ {xs : List AV}, (∀ x ∈ xs, x.cells.length = n) → ∀ {i : Nat} {x : AV}, xs[i]? = some x → ∃ A B, xs.flatMap AV.cells = A ++ x.cells ++ B ∧ A.length = i * n ∧ ∀ y : AV, (xs.set i y).flatMap AV.cells = A ++ y.cells ++ B
  | [], _, i, x, h => by simp at h
  | y :: r, hc, 0, x, h => by
    simp at h; subst h
    exact ⟨[], r.flatMap AV.cells, by simp, by simp, fun z => by simp⟩
  | y :: r, hc, i + 1, x, h => by
    obtain ⟨A, B, h1, h2, h3⟩ := flat_set (fun z hz => hc z (List.mem_cons_of_mem _ hz)) (i := i) (x := x) (by simpa using h)
    refine ⟨y.cells ++ A, B, by simp [h1], ?_, fun z => by simp [h3 z]⟩
    rw [List.length_append, h2, hc y (by simp), Nat.succ_mul]; omega
/-- One of the parts: where its lists are, and what a new name turns. -/
theorem InA.at {H : Heap} {b n m : Nat} (h : InA H b n m) {i : Nat} (hi : i < n) : ∃ sI sM, WS H b m sI ∧ WS H b m sM ∧ iaddrA (some 7) (.sl b 0 n (some 7)) (.int .i64 ↑i) = some (.ptr b (i * 7)) ∧ loadA none (.ptr b (i * 7 + 2)) H = some sI ∧ loadA none (.ptr b (i * 7 + 4)) H = some sM ∧
    ∀ s : Str, ∃ cs', storeA 1 (.ptr b (i * 7 + 1)) (.str s) H = some (H.set b (.arr 7 0 0 cs')) ∧ InA (H.set b (.arr 7 0 0 cs')) b n m := by
  obtain ⟨ys, h1, h2, h3, h4⟩ := h
  have hil : i < ys.length := by omega
  obtain ⟨x0, x1, sI, x3, sM, x5, x6, e, w1, w2⟩ := h4 i ys[i] (List.getElem?_eq_getElem hil)
  have hall : ∀ y ∈ ys, y.cells.length = 7 := by
    intro y hy
    obtain ⟨j, hj⟩ := List.getElem?_of_mem hy
    obtain ⟨_, _, _, _, _, _, _, e, _⟩ := h4 j y hj
    rw [e]; rfl
  obtain ⟨A, B, q1, q2, q3⟩ := flat_set hall (List.getElem?_eq_getElem hil)
  rw [q1, e] at h2
  have h2' : H[b]? = some (.arr 7 0 0 (A ++ [x0, x1, sI, x3, sM, x5, x6] ++ B)) := h2
  have gi : ∀ k, k < 7 → (A ++ [x0, x1, sI, x3, sM, x5, x6] ++ B)[i * 7 + k]? = [x0, x1, sI, x3, sM, x5, x6][k]? := by
    intro k hk
    rw [List.getElem?_append_left (by simp; omega), List.getElem?_append_right (by omega), q2]
    congr 1; omega
  refine ⟨sI, sM, w1, w2, by simp [iaddrA, evNat, hi, szOf], load_arr h2' (by rw [gi 2 (by omega)]; rfl), load_arr h2' (by rw [gi 4 (by omega)]; rfl), fun s => ?_⟩
  refine ⟨_, store_arr h2' (Nat.zero_le _) (by simp; omega) rfl, ?_⟩
  have hset : (A ++ [x0, x1, sI, x3, sM, x5, x6] ++ B).set (i * 7 + 1) (.str s) = A ++ [x0, .str s, sI, x3, sM, x5, x6] ++ B := by
    rw [List.set_append_left _ _ (by simp; omega), List.set_append_right _ _ (by omega), q2, show i * 7 + 1 - i * 7 = 1 by omega]; rfl
  rw [hset]
  have hbl : b < H.length := (List.getElem?_eq_some_iff.1 h2).1
  refine ⟨ys.set i (.agg [x0, .str s, sI, x3, sM, x5, x6]), by simp [h1], ?_, h3, fun j y hy => ?_⟩
  · rw [List.getElem?_set_self hbl, q3]; rfl
  · by_cases hj : i = j
    · subst hj
      rw [List.getElem?_set_self hil] at hy
      cases hy
      exact ⟨x0, _, sI, x3, sM, x5, x6, rfl, w1.setb _, w2.setb _⟩
    · rw [List.getElem?_set_ne hj] at hy
      obtain ⟨y0, y1, tI, y3, tM, y5, y6, e, w1, w2⟩ := h4 j y hy
      exact ⟨y0, y1, tI, y3, tM, y5, y6, e, w1.setb _, w2.setb _⟩
theorem WS.len {H : Heap} {b m : Nat} {v : AV} (h : WS H b m v) : ∃ L : Nat, (∀ H2, lenA H2 .sl v = some (.int .i64 ↑L)) ∧ L < 4611686018427387904 ∧ ∀ j : Nat, j < L → ∃ (c : Nat) (cs : List AV), c ≠ b ∧ c < m ∧ H[c]? = some (.arr 1 0 0 cs) ∧ iaddrA none v (.int .i64 ↑j) = some (.ptr c (0 + j)) ∧ ∀ s : Str, storeA 1 (.ptr c (0 + j)) (.str s) H = some (H.set c (.arr 1 0 0 (cs.set (0 + j) (.str s)))) := by
  obtain ⟨c, L, cs, rfl, h1, h2, h3, h4, h5⟩ := h
  exact ⟨L, fun _ => rfl, h5, fun j hj => ⟨c, cs, h1, h2, h3, iaddr_sl hj, fun s => store_arr h3 (Nat.zero_le _) (by omega) rfl⟩⟩
end Go.AM.T

/- What TypesOwn does: the copies of the types, the answers kept. -/
namespace Go.AM.T
set_option linter.unusedVariables false
set_option linter.unusedSimpArgs false
set_option maxRecDepth 100000

def norm7 (d : TDef) : TDef := { d with impl := some (d.impl.getD []), mem := some (d.mem.getD []) }
theorem norm7_good {d : TDef} (h : d.good) : (norm7 d).good := ⟨h.f, h.i, h.impl, h.mem, h.name⟩
theorem norm7_alike (d : TDef) : Alike (norm7 d) d := ⟨rfl, rfl, rfl, rfl, rfl, rfl, rfl⟩
/-- The copies so far. -/
structure L1 (H : Heap) (b : Nat) (l : List TDef) (i : Nat) : Prop where
  h : ∃ ys : List AV, ys.length = i ∧ H[b]? = some (.arr 7 0 0 (ys.flatMap AV.cells ++ ((l.drop i).map TDef.av).flatMap AV.cells)) ∧
    ∀ (j : Nat) (y : AV) (d : TDef), ys[j]? = some y → l[j]? = some d → ∃ cI cM, y = .agg [I d.kind, .str d.name, .sl cI 0 (d.impl.getD []).length none, d.fields, .sl cM 0 (d.mem.getD []).length none, d.inputs, I d.pos] ∧
      H[cI]? = some (.arr 1 0 0 (strs (d.impl.getD []))) ∧ H[cM]? = some (.arr 1 0 0 (strs (d.mem.getD []))) ∧ cI ≠ b ∧ cM ≠ b
theorem L1.ys7 {H : Heap} {b : Nat} {l : List TDef} {i : Nat} {ys : List AV} (h1 : ys.length = i) (hi : i ≤ l.length) (h3 : ∀ (j : Nat) (y : AV) (d : TDef), ys[j]? = some y → l[j]? = some d → ∃ cI cM, y = .agg [I d.kind, .str d.name, .sl cI 0 (d.impl.getD []).length none, d.fields, .sl cM 0 (d.mem.getD []).length none, d.inputs, I d.pos] ∧
      H[cI]? = some (Blk.arr 1 0 0 (strs (d.impl.getD []))) ∧ H[cM]? = some (Blk.arr 1 0 0 (strs (d.mem.getD []))) ∧ cI ≠ b ∧ cM ≠ b) : ∀ y ∈ ys, y.cells.length = 7 := by
  intro y hy
  obtain ⟨j, hj⟩ := List.getElem?_of_mem hy
  have hjl : j < ys.length := (List.getElem?_eq_some_iff.1 hj).1
  obtain ⟨_, _, e, _⟩ := h3 j y _ hj (List.getElem?_eq_getElem (show j < l.length by omega))
  rw [e]; rfl
/-- What was answered and kept. -/
def Was (q : Option (List Str)) (m m2 : Nat) (H : Heap) (v : AV) : Prop := (v = .nils ∧ q = none) ∨ ∃ (b : Nat) (L : List Str) (cs' : List AV), q = some L ∧ v = .sl b 0 L.length none ∧ m ≤ b ∧ b < m2 ∧ H[b]? = some (.arr 1 0 0 cs') ∧ cs'.take L.length = strs L
theorem Was.keep {q : Option (List Str)} {m m2 : Nat} {H H' : Heap} {v : AV} (h : Was q m m2 H v) (hk : ∀ (c : Nat) (x : Blk), m ≤ c → c < m2 → H[c]? = some x → H'[c]? = some x) : Was q m m2 H' v := by
  rcases h with h | ⟨b, L, cs', h1, h2, h3, h4, h5, h6⟩
  · exact .inl h
  · exact .inr ⟨b, L, cs', h1, h2, h3, h4, hk b _ h3 h4 h5, h6⟩
theorem Was.pub {fr : Bool} {q : Option (List Str)} {m m2 : Nat} {H : Heap} {v : AV} (h : Was q m m2 H v) : Pub fr H v (ostr q) := by
  rcases h with ⟨rfl, rfl⟩ | ⟨b, L, cs', rfl, rfl, _, _, h5, h6⟩
  · exact Pub.scalar rfl
  · have hle : L.length ≤ cs'.length := by
      have := congrArg List.length h6
      simp at this; omega
    refine Pub.sl (cs' := strs L) h5 rfl (by omega) ?_ (by have := chunk_none (strs L); simpa using this)
    simp only [List.drop_zero, Nat.mul_one, h6]
    exact PubLF.scalars (strs_scalar _)
theorem PossR.was {q : Option (List Str)} {H H' : Heap} {v : AV} (h : PossR q H v H') : Was q H.length H'.length H' v := by
  rcases h.v with h | ⟨b, L, cs', h1, h2, h3, h4, h5⟩
  · exact .inl h
  · exact .inr ⟨b, L, cs', h1, h2, h3, (List.getElem?_eq_some_iff.1 h4).1, h4, h5⟩
theorem look_step (n : Str) (s : Tab × List Str) (d : TDef) : (step s d).1.look n = (s.1.look n).or (if d.name == n then some d else none) := by
  unfold step
  by_cases h : (s.1.look d.name).isSome = true
  · rw [if_pos h]
    by_cases e : (d.name == n) = true
    · have : d.name = n := by simpa using e
      subst this
      cases hl : s.1.look d.name with
      | none => rw [hl] at h; cases h
      | some x => rfl
    · rw [if_neg e]; simp
  · rw [if_neg h]
    simp only [Tab.look, List.find?_append, Option.map_or]
    congr 1
    by_cases e : (d.name == n) = true
    · simp [e]
    · simp [e]
theorem look_fold (n : Str) : ∀ (l : List TDef) (s : Tab × List Str), (l.foldl step s).1.look n = (s.1.look n).or (l.find? fun d => d.name == n)
  | [], s => by simp
  | d :: r, s => by
    rw [List.foldl_cons, look_fold n r (step s d), look_step, List.find?_cons]
    cases h : d.name == n <;> simp [Option.or_assoc]
theorem five_look {n : Str} (h : n ∉ fiveL) : fiveT.look n = none := by
  cases e : fiveT.look n with
  | none => rfl
  | some d =>
    have hm := look_mem e
    obtain ⟨s, hs, e2⟩ := List.mem_map.1 hm
    cases e2
    exact absurd hs h
theorem find_norm (n : Str) : ∀ l : List TDef, ((l.map norm7).find? fun d => d.name == n) = (l.find? fun d => d.name == n).map norm7
  | [] => rfl
  | d :: r => by
    rw [List.map_cons, List.find?_cons, List.find?_cons, find_norm n r]
    have : (norm7 d).name = d.name := rfl
    rw [this]
    cases h : d.name == n <;> rfl
theorem get_alike {l : List TDef} {n : Str} (h : (newT (l.map norm7)).1.defB n = true) : Alike ((newT (l.map norm7)).1.get n) (findT l n) ∧ ∃ d ∈ l, findT l n = d := by
  have hn : n ∉ fiveL := by
    simp only [Tab.defB, Bool.and_eq_true, Bool.not_eq_true'] at h
    have := h.2
    simpa using this
  have hl : (newT (l.map norm7)).1.look n = (l.find? fun d => d.name == n).map norm7 := by
    have := look_fold n (l.map norm7) (fiveT, [])
    rw [five_look hn, Option.none_or, find_norm] at this
    exact this
  simp only [Tab.defB, Bool.and_eq_true] at h
  cases e : l.find? fun d => d.name == n with
  | none => rw [e] at hl; rw [hl] at h; simp at h
  | some d =>
    rw [e] at hl
    have e1 : (newT (l.map norm7)).1.get n = norm7 d := by rw [Tab.get, hl]; rfl
    have e2 : findT l n = d := by simp [findT, hn, e]
    rw [e1, e2]
    exact ⟨norm7_alike d, d, List.mem_of_find?_eq_some e, rfl⟩
theorem findT_cells {l : List TDef} (hg : ∀ d ∈ l, d.good) (n : Str) : (findT l n).av.cells.all AV.isCell = true := by
  unfold findT
  split
  · rfl
  · cases e : l.find? fun d => d.name == n with
    | none => rfl
    | some d => exact TDef.cells_all (hg d (List.mem_of_find?_eq_some e))
theorem newT_keys (l : List TDef) (hg : ∀ d ∈ l, d.good) : ∀ p ∈ (newT l).1, p.2.good ∨ p.1 ∈ fiveL := by
  refine fold_keys (fun n d => d.good ∨ n ∈ fiveL) l (fiveT, []) ?_ fun d hd => .inl (hg d hd)
  intro p hp
  obtain ⟨s, hs, rfl⟩ := List.mem_map.1 hp
  exact .inr hs
end Go.AM.T

/- The statement on what is handed in and answered: the A-machine answers true. -/
namespace Go.AM.T
set_option linter.unusedVariables false
set_option linter.unusedSimpArgs false
set_option maxRecDepth 100000

theorem fill7 {cs : List AV} (h : cs.all AV.isCell = true) (hl : cs.length = 7 := by rfl) : fillA (repC [.int .i64 0, .str [], .nils, .nils, .nils, .nils, .int .i64 0] 1) [(0, 7, .agg cs)] = some cs := by
  have : wr [AV.int .i64 0, .str [], .nils, .nils, .nils, .nils, .int .i64 0] 0 cs = cs := by simp [wr]; omega
  have h' : ∀ x ∈ cs, x.isCell = true := by simpa using h
  simp [fillA, repC, AV.cells, hl, this]
  simpa using h'
theorem r2 {a : AV} {l : List TDef} (ha : SLike a (l.map TDef.av)) (hg : ∀ d ∈ l, d.good) (hl : l.length ≤ 8796093022000) (hl2 : l.length * 128 ≤ BIG) (n : Str) (hn : Short n) (H : Heap) : Ret env 2 [a, .str n] H (.bool true) H := by
  have hna : AV.noIds a = true := by
    rw [ha.noIds]
    refine noIdsL_of fun v hv => ?_
    obtain ⟨d, hd, rfl⟩ := List.mem_map.1 hv
    exact TDef.noIds (hg d hd).ok
  have hp1 : ∀ H, PubL H [a] [a] := fun H => PubL.plain (by simp [AV.noIdsL, hna])
  refine Ret.isoX (f := c2) rfl rfl rfl (PubL.plain (by simp [AV.noIdsL, AV.noIds, hna])) (Eq.mpr (x2 _ _ _ _ _) ?_)
  have done : ∀ {fr H}, Pub fr H (.bool true) (.bool true) := fun {_ _} => Pub.scalar rfl
  have aw : ∀ {fr H}, callP env 3 [] H fun v h => Pub fr h v (.bool true) := fun {_ H} => ⟨_, _, callF_awake H, done⟩
  refine ⟨_, _, callF_awake [], _, notB _, splitB_bool (fun h => by cases h) fun _ => ?_⟩
  obtain ⟨r, ⟨q, rfl⟩, hr⟩ := r4 ha hg hl (hp1 [])
  refine ⟨_, _, hr, _, notB _, splitB_bool (fun _ => aw) fun _ => ?_⟩
  refine ⟨_, rfl, _, gtrI _ _ _, splitB_bool (fun _ => aw) fun _ => ?_⟩
  have hsz : ∀ x ∈ l.map TDef.av, x.cells.length = szOf (some 7) := by
    intro x hx
    obtain ⟨d, _, rfl⟩ := List.mem_map.1 hx
    rfl
  have hlS : l.length < 4611686018427387904 := by omega
  obtain ⟨b, H18, g18, _, hb18, hQ⟩ := app_all (zero := [AV.int .i64 0, AV.str [], AV.nils, AV.nils, AV.nils, AV.nils, AV.int .i64 0]) (sh := some 7) (bytes := 128) ha hsz (by simpa using hl2) (by rw [List.length_map]; omega) []
  refine hQ _ ?_
  rw [List.length_map] at *
  refine ⟨_, len_sl _ _ _ _ _, ?_⟩
  have l10 : L1 H18 b l 0 := ⟨[], rfl, by simpa [szOf] using hb18, fun j y d h => by simp at h⟩
  refine ⟨fun k f Hc => ∃ i : Nat, i + k = l.length ∧ f 40 = I ↑i ∧ L1 Hc b l i, ⟨l.length, 0, by simp, rfl, l10⟩, ?_⟩
  clear l10 hb18 g18 hQ
  rintro k f Hc ⟨i, hi, h40, hL⟩
  rw [h40, lssI, getP_some, splitB_iff]
  refine ⟨fun hlt => ?_, fun hlt => ?_⟩
  · have hlt : i < l.length := by simpa using hlt
    have hgi := List.getElem?_eq_getElem hlt
    obtain ⟨ys, y1, y2, y3⟩ := hL.h
    have hgood := hg l[i] (List.getElem_mem hlt)
    have ys7 := L1.ys7 y1 (by omega) y3
    have hbl : b < Hc.length := (List.getElem?_eq_some_iff.1 y2).1
    have ea := ha.iaddr (k := .i64) (get_map (f := TDef.av) hlt) hsz
    generalize hd : l[i] = d at *
    rw [drop_cons hgi, List.map_cons, List.flatMap_cons] at y2
    have y2' : Hc[b]? = some (.arr 7 0 0 (ys.flatMap AV.cells ++ [I d.kind, .str d.name, ostr d.impl, d.fields, ostr d.mem, d.inputs, I d.pos] ++ ((l.drop (i + 1)).map TDef.av).flatMap AV.cells)) := by rw [y2]; simp; rfl
    have hA := flat_len ys7
    rw [y1] at hA
    refine ⟨by kernel_rfl, ?_⟩
    rw [sl0]
    refine ⟨_, ea, _, rfl, ostr d.mem, rfl, ?_⟩
    show sliceP none 0 0 [AV.str []] [] (Hc ++ [Blk.arr 1 0 0 []]) _
    rw [sl0]
    have z0 : (Hc ++ [Blk.arr 1 0 0 []] ++ [Blk.arr 1 0 0 []])[Hc.length]? = some (.arr 1 0 0 []) := by simp
    have z1 : (Hc ++ [Blk.arr 1 0 0 []] ++ [Blk.arr 1 0 0 []])[Hc.length + 1]? = some (.arr 1 0 0 []) := by simp
    have zl : (Hc ++ [Blk.arr 1 0 0 []]).length = Hc.length + 1 := by simp
    have zk : ∀ (c : Nat) (x : Blk), Hc[c]? = some x → (Hc ++ [Blk.arr 1 0 0 []] ++ [Blk.arr 1 0 0 []])[c]? = some x := fun c x hx => getElem?_grow (getElem?_grow hx _) _
    have ll1 : Hc.length ≤ (Hc ++ [Blk.arr 1 0 0 []]).length := by simp
    have ll2 : (Hc ++ [Blk.arr 1 0 0 []]).length ≤ (Hc ++ [Blk.arr 1 0 0 []] ++ [Blk.arr 1 0 0 []]).length := by simp
    have ll3 : (Hc ++ [Blk.arr 1 0 0 []] ++ [Blk.arr 1 0 0 []]).length = Hc.length + 2 := by simp
    obtain ⟨bM, h34, e34, f34, l34, k34, n34⟩ := appO2 z0 d.mem hgood.mem
    have z1' := k34 _ _ (by omega) z1
    obtain ⟨bI, h39, e39, f39, l39, k39, n39⟩ := appO2 z1' d.impl hgood.impl
    have fM := k39 _ _ (by rcases n34 with h | h <;> omega) f34
    have hb39 : h39[b]? = some (.arr 7 0 0 (ys.flatMap AV.cells ++ [I d.kind, .str d.name, ostr d.impl, d.fields, ostr d.mem, d.inputs, I d.pos] ++ ((l.drop (i + 1)).map TDef.av).flatMap AV.cells)) := k39 _ _ (by omega) (k34 _ _ (by omega) (zk _ _ y2'))
    have kall : ∀ (c : Nat) (x : Blk), c < Hc.length → Hc[c]? = some x → h39[c]? = some x := fun c x hc hx => k39 _ _ (by omega) (k34 _ _ (by omega) (zk _ _ hx))
    rw [show (Hc ++ [Blk.arr 1 0 0 []]).length = Hc.length + 1 from zl]
    refine ⟨_, _, e34, _, ea, _, rfl, ostr d.impl, rfl, _, _, e39, ?_⟩
    have eb : iaddrA (some 7) (.sl b 0 l.length (some 7)) (.int .i64 ↑i) = some (.ptr b (i * 7)) := by simp [iaddrA, evNat, hlt, szOf]
    have hb39' := hb39
    have b1 : bM ≠ b := by rcases n34 with h | h <;> omega
    have b2 : bI ≠ b := by rcases n39 with h | h <;> omega
    have hblk : b < h39.length := (List.getElem?_eq_some_iff.1 hb39).1
    have st1 : storeA 1 (.ptr b (i * 7 + 4)) (.sl bM 0 (d.mem.getD []).length none) h39 = some (h39.set b (.arr 7 0 0 (ys.flatMap AV.cells ++ [I d.kind, .str d.name, ostr d.impl, d.fields, .sl bM 0 (d.mem.getD []).length none, d.inputs, I d.pos] ++ ((l.drop (i + 1)).map TDef.av).flatMap AV.cells))) := by
      rw [store_arr hb39 (Nat.zero_le _) (by simp only [List.length_append, hA, List.length_cons, List.length_nil]; omega) rfl]
      rw [List.set_append_left _ _ (by simp only [List.length_append, hA, List.length_cons, List.length_nil]; omega), List.set_append_right _ _ (by omega), hA, show i * 7 + 4 - i * 7 = 4 by omega]; rfl
    have st2 : storeA 1 (.ptr b (i * 7 + 2)) (.sl bI 0 (d.impl.getD []).length none) (h39.set b (.arr 7 0 0 (ys.flatMap AV.cells ++ [I d.kind, .str d.name, ostr d.impl, d.fields, .sl bM 0 (d.mem.getD []).length none, d.inputs, I d.pos] ++ ((l.drop (i + 1)).map TDef.av).flatMap AV.cells))) = some (h39.set b (.arr 7 0 0 (ys.flatMap AV.cells ++ [I d.kind, .str d.name, .sl bI 0 (d.impl.getD []).length none, d.fields, .sl bM 0 (d.mem.getD []).length none, d.inputs, I d.pos] ++ ((l.drop (i + 1)).map TDef.av).flatMap AV.cells))) := by
      rw [store_arr (cs := ys.flatMap AV.cells ++ [I d.kind, .str d.name, ostr d.impl, d.fields, .sl bM 0 (d.mem.getD []).length none, d.inputs, I d.pos] ++ ((l.drop (i + 1)).map TDef.av).flatMap AV.cells) (by rw [List.getElem?_set_self hblk]) (Nat.zero_le _) (by simp only [List.length_append, hA, List.length_cons, List.length_nil]; omega) rfl]
      rw [List.set_set, List.set_append_left _ _ (by simp only [List.length_append, hA, List.length_cons, List.length_nil]; omega), List.set_append_right _ _ (by omega), hA, show i * 7 + 2 - i * 7 = 2 by omega]; rfl
    refine ⟨_, eb, _, rfl, _, st1, _, eb, _, rfl, _, st2, ?_⟩
    refine ⟨trOk_two [] [0, 1, 2, 3, 4, 5, 6, 7, 8, 9, 10, 11, 12, 13, 14, 15, 16, 17, 18, 19, 20, 21, 22, 23] (by kernel_rfl) ?_ (by simp) ?_, ?_⟩
    · intro tr htr
      simp only [List.mem_cons, List.not_mem_nil, or_false] at htr
      rcases htr with rfl | rfl | rfl | rfl | rfl | rfl | rfl | rfl | rfl | rfl | rfl | rfl | rfl | rfl | rfl | rfl | rfl | rfl | rfl | rfl | rfl | rfl | rfl | rfl <;> simp only [Nat.le_refl, List.length_set] <;> assumption
    · intro k hk tr htr
      simp at hk
      rcases hk with rfl | rfl | rfl | rfl | rfl | rfl | rfl | rfl | rfl | rfl | rfl | rfl | rfl | rfl | rfl | rfl | rfl | rfl | rfl | rfl | rfl | rfl | rfl | rfl <;> (simp only [List.getElem?_cons_zero, List.getElem?_cons_succ, Option.some.injEq] at htr; subst htr; rfl)
    rw [add1 (by omega), getP_some]
    refine ⟨k - 1, by omega, i + 1, by omega, rfl, ⟨ys ++ [.agg [I d.kind, .str d.name, .sl bI 0 (d.impl.getD []).length none, d.fields, .sl bM 0 (d.mem.getD []).length none, d.inputs, I d.pos]], by simp [y1], ?_, ?_⟩⟩
    · rw [List.getElem?_set_self hblk]; simp [AV.cells]
    · intro j y e hy he
      by_cases hj : j < i
      · rw [List.getElem?_append_left (by omega)] at hy
        obtain ⟨cI, cM, q1, q2, q3, q4, q5⟩ := y3 j y e hy he
        refine ⟨cI, cM, q1, ?_, ?_, q4, q5⟩
        · rw [List.getElem?_set_ne (Ne.symm q4)]; exact kall _ _ (List.getElem?_eq_some_iff.1 q2).1 q2
        · rw [List.getElem?_set_ne (Ne.symm q5)]; exact kall _ _ (List.getElem?_eq_some_iff.1 q3).1 q3
      · have hji : j = i := by
          have := (List.getElem?_eq_some_iff.1 hy).1
          simp [y1] at this; omega
        subst hji
        rw [List.getElem?_append_right (by omega), y1] at hy
        simp at hy; subst hy
        rw [hgi] at he
        have hde : d = e := by injection he
        subst hde
        exact ⟨bI, bM, rfl, by rw [List.getElem?_set_ne (Ne.symm b2)]; exact f39, by rw [List.getElem?_set_ne (Ne.symm b1)]; exact fM, b2, b1⟩
  have hil : i = l.length := by have : ¬ i < l.length := by simpa using hlt
                                omega
  subst hil
  obtain ⟨ys, y1, y2, y3⟩ := hL.h
  have ys7 := L1.ys7 y1 (Nat.le_refl _) y3
  rw [List.drop_length, List.map_nil, List.flatMap_nil, List.append_nil] at y2
  have hA := flat_len ys7
  rw [y1] at hA
  have hin : InA Hc b l.length Hc.length := by
    refine ⟨ys, y1, y2, (List.getElem?_eq_some_iff.1 y2).1, fun j y hy => ?_⟩
    have hjl : j < l.length := by have := (List.getElem?_eq_some_iff.1 hy).1; omega
    obtain ⟨cI, cM, q1, q2, q3, q4, q5⟩ := y3 j y l[j] hy (List.getElem?_eq_getElem hjl)
    have hgj := hg l[j] (List.getElem_mem hjl)
    exact ⟨_, _, _, _, _, _, _, q1, ⟨cI, _, _, rfl, q4, (List.getElem?_eq_some_iff.1 q2).1, q2, by simp, by have := hgj.impl; omega⟩, ⟨cM, _, _, rfl, q5, (List.getElem?_eq_some_iff.1 q3).1, q3, by simp, by have := hgj.mem; omega⟩⟩
  have hpub : PubL Hc [.sl b 0 l.length (some 7)] [.data ((l.map norm7).map TDef.av)] := by
    refine PubLF.cons ?_ .nil
    refine Pub.sl (cs' := ((l.map norm7).map TDef.av).flatMap AV.cells) y2 rfl (by omega) ?_ ?_
    · rw [List.drop_zero, ← hA, List.take_length]
      clear y2 hA hin ys7
      have key : ∀ (ys : List AV) (l : List TDef), (∀ d ∈ l, d.good) → ys.length = l.length → (∀ (j : Nat) (y : AV) (d : TDef), ys[j]? = some y → l[j]? = some d → ∃ cI cM, y = .agg [I d.kind, .str d.name, .sl cI 0 (d.impl.getD []).length none, d.fields, .sl cM 0 (d.mem.getD []).length none, d.inputs, I d.pos] ∧
          Hc[cI]? = some (Blk.arr 1 0 0 (strs (d.impl.getD []))) ∧ Hc[cM]? = some (Blk.arr 1 0 0 (strs (d.mem.getD []))) ∧ cI ≠ b ∧ cM ≠ b) → PubLF false Hc (ys.flatMap AV.cells) (((l.map norm7).map TDef.av).flatMap AV.cells) := by
        intro ys
        induction ys with
        | nil => intro l _ h _; have : l = [] := List.eq_nil_of_length_eq_zero h.symm; subst this; exact .nil
        | cons y r ih =>
          intro l hg h hh
          cases l with
          | nil => simp at h
          | cons d q =>
            obtain ⟨cI, cM, e, q2, q3, _, _⟩ := hh 0 y d rfl rfl
            subst e
            rw [List.flatMap_cons, List.map_cons, List.map_cons, List.flatMap_cons]
            have gd := hg d (by simp)
            have pI := Pub.row (fr := false) q2 (strs_scalar _)
            have pM := Pub.row (fr := false) q3 (strs_scalar _)
            rw [List.length_map] at pI pM
            exact PubLF.app (.cons (.scalar rfl) (.cons (.scalar rfl) (.cons pI (.cons (Pub.plain gd.f.noIds) (.cons pM (.cons (Pub.plain gd.i.noIds) (.cons (.scalar rfl) .nil))))))) (ih q (fun x hx => hg x (by simp [hx])) (by simpa using h) fun j y d hy hd => hh (j + 1) y d hy hd)
      exact key ys l hg y1 y3
    · have := chunk_cells (sh := some 7) (xs := (l.map norm7).map TDef.av) (by
        intro x hx
        obtain ⟨d, _, rfl⟩ := List.mem_map.1 hx
        exact ⟨rfl, rfl⟩)
      simpa using this
  clear y2 hA ys7 y3 y1 hL
  have hg' : ∀ d ∈ l.map norm7, d.good := by
    intro d hd
    obtain ⟨e, he, rfl⟩ := List.mem_map.1 hd
    exact norm7_good (hg e he)
  refine ⟨_, _, r108 (SLike.data _) hg' (by rw [List.length_map]; exact hl) hpub rfl, ?_⟩
  have hto := newT_ok (l.map norm7) (fiveT, []) fiveT_ok fun d hd => (hg' d hd).ok
  have hnice : (newT (l.map norm7)).1.nice := fold_nice (l.map norm7) (fiveT, []) fiveT_nice hg'
  have hkeys := newT_keys (l.map norm7) hg'
  have ht : (newT (l.map norm7)).1.ok := hto.1
  have ho : ((ordO (newT (l.map norm7)).2).getD []).length ≤ 8796093022000 := by
    have e : ((ordO (newT (l.map norm7)).2).getD []) = (newT (l.map norm7)).2 := by
      unfold ordO; split
      · rename_i h; rw [h]; rfl
      · rfl
    rw [e]
    have := hto.2
    simp only [List.length_nil, Nat.zero_add, List.length_map] at this
    exact Nat.le_trans this hl
  have hm : ∀ n, (((newT (l.map norm7)).1.get n).mem.getD []).length ≤ 8796093022000 := by
    intro n
    unfold Tab.get Tab.look
    cases e : (newT (l.map norm7)).1.find? fun p => p.1 == n with
    | none => simp [zeroDef]
    | some p =>
      rcases hnice p (List.mem_of_find?_eq_some e) with h | ⟨s, h⟩
      · exact h.mem
      · rw [Option.map_some, Option.getD_some, h]; simp [primDef]
  have hget : ((newT (l.map norm7)).1.get n).good ∨ (newT (l.map norm7)).1.defB n = false := by
    cases hd : (newT (l.map norm7)).1.defB n with
    | false => exact .inr rfl
    | true =>
      refine .inl ?_
      simp only [Tab.defB, Bool.and_eq_true, Bool.not_eq_true'] at hd
      unfold Tab.get
      cases e : (newT (l.map norm7)).1.look n with
      | none => rw [e] at hd; simp at hd
      | some d =>
        rcases hkeys _ (look_mem e) with h | h
        · exact h
        · have := hd.2; simp at this; exact absurd h this
  generalize htl : (newT (l.map norm7)).1 = t at *
  generalize ordO (newT (l.map norm7)).2 = o at *
  have hpl : ShortL ((t.poss o n).getD []) := by have := poss_len ho (hm n); simp only [ShortL]; omega
  refine ⟨_, show eqA .ptr false (TT t o) .nilp = some (.bool false) from rfl, ?_⟩
  show callP env 113 [TT t o, .str n] Hc _
  obtain ⟨v50, h51, p0, hr0⟩ := r113 ht o ho n (hm n) Hc
  refine ⟨v50, h51, hr0, ?_⟩
  have was0 : Was (t.poss o n) Hc.length h51.length h51 v50 := p0.was
  have hin0 : InA h51 b l.length Hc.length := by
    obtain ⟨ys, q1, q2, q3, q4⟩ := hin
    refine ⟨ys, q1, p0.g.at q2, q3, fun j y hy => ?_⟩
    obtain ⟨x0, x1, sI, x3, sM, x5, x6, e, ⟨c, L, cs, w1, w2, w3, w4, w5⟩, ⟨c', L', cs', w1', w2', w3', w4', w5'⟩⟩ := q4 j y hy
    exact ⟨x0, x1, sI, x3, sM, x5, x6, e, ⟨c, L, cs, w1, w2, w3, p0.g.at w4, w5⟩, ⟨c', L', cs', w1', w2', w3', p0.g.at w4', w5'⟩⟩
  have hbm : b < Hc.length := hin.choose_spec.2.2.1
  have hm2 : Hc.length ≤ h51.length := p0.g.1
  clear hin hpub p0 hr0
  generalize hmm : Hc.length = m at *
  generalize hmm2 : h51.length = m2 at *
  refine ⟨_, len_sl _ _ _ _ _, ?_⟩
  refine ⟨fun k f H3 => ∃ i : Nat, i + k = l.length ∧ f 75 = I ↑i ∧ InA H3 b l.length m ∧ Was (t.poss o n) m m2 H3 v50 ∧ H3.length = m2, ⟨l.length, 0, by simp, rfl, hin0, was0, hmm2⟩, ?_⟩
  clear hin0 was0 hmm hmm2 hlt h40 hi
  rintro k f H56 ⟨i, hi, h75, hin, was, hlen⟩
  rw [h75, lssI, getP_some, splitB_iff]
  refine ⟨fun hlt => ?_, fun hlt => ?_⟩
  · have hlt : i < l.length := by simpa using hlt
    obtain ⟨sI, sM, wI, wM, ea, eI, eM, upd⟩ := hin.at hlt
    obtain ⟨L, e1, e2, e3⟩ := wM.len
    refine ⟨_, ea, _, rfl, sM, eM, _, e1 _, ?_⟩
    refine ⟨fun k2 f2 H3 => ∃ j : Nat, j + k2 = L ∧ f2 84 = I ↑j ∧ InA H3 b l.length m ∧ Was (t.poss o n) m m2 H3 v50 ∧ H3.length = m2 ∧ WS H3 b m sM ∧ WS H3 b m sI ∧ loadA none (.ptr b (i * 7 + 4)) H3 = some sM ∧ loadA none (.ptr b (i * 7 + 2)) H3 = some sI, ⟨L, 0, by simp, rfl, hin, was, hlen, wM, wI, eM, eI⟩, ?_⟩
    clear hin was hlen wI wM eI eM e3 upd
    rintro k2 f2 H66 ⟨j, hj, h84, hin, was, hlen, wM, wI, eM, eI⟩
    have ldset : ∀ {H : Heap} {c : Nat} {x : Blk} {off : Nat} {v : AV}, c ≠ b → loadA none (.ptr b off) H = some v → loadA none (.ptr b off) (H.set c x) = some v := by
      intro H c x off v hc h
      simp only [loadA] at h ⊢
      rw [List.getElem?_set_ne hc]; exact h
    rw [h84, lssI, getP_some, splitB_iff]
    refine ⟨fun hlt2 => ?_, fun hlt2 => ?_⟩
    · have hlt2 : j < L := by simpa using hlt2
      obtain ⟨L', g1, g2, g3⟩ := wM.len
      have hLL : L' = L := by
        have := (g1 []).symm.trans (e1 [])
        simp at this; omega
      subst hLL
      obtain ⟨c, cs, c1, c2, c3, c4, c5⟩ := g3 j hlt2
      refine ⟨_, ea, _, rfl, sM, eM, _, c4, _, c5 _, ?_⟩
      show getP _ _
      rw [add1 (by omega), getP_some]
      refine ⟨k2 - 1, by omega, j + 1, by omega, rfl, hin.write c1 c3 (by simp), was.keep fun c' x hc _ hx => by rw [List.getElem?_set_ne (by omega)]; exact hx, by simp [hlen], wM.write c3 (by simp), wI.write c3 (by simp), ldset c1 eM, ldset c1 eI⟩
    · clear e1 e2
      obtain ⟨L2, e1, e2, e3⟩ := wI.len
      refine ⟨_, ea, _, rfl, sI, eI, _, e1 _, ?_⟩
      refine ⟨fun k2 f2 H3 => ∃ j : Nat, j + k2 = L2 ∧ f2 101 = I ↑j ∧ InA H3 b l.length m ∧ Was (t.poss o n) m m2 H3 v50 ∧ H3.length = m2 ∧ WS H3 b m sI ∧ loadA none (.ptr b (i * 7 + 2)) H3 = some sI, ⟨L2, 0, by simp, rfl, hin, was, hlen, wI, eI⟩, ?_⟩
      clear hin was hlen wI wM eI eM e3
      rintro k3 f3 H82 ⟨j3, hj3, h101, hin, was, hlen, wI, eI⟩
      rw [h101, lssI, getP_some, splitB_iff]
      refine ⟨fun hlt3 => ?_, fun hlt3 => ?_⟩
      · have hlt3 : j3 < L2 := by simpa using hlt3
        obtain ⟨L', g1, g2, g3⟩ := wI.len
        have hLL : L' = L2 := by
          have := (g1 []).symm.trans (e1 [])
          simp at this; omega
        subst hLL
        obtain ⟨c, cs, c1, c2, c3, c4, c5⟩ := g3 j3 hlt3
        refine ⟨_, ea, _, rfl, sI, eI, _, c4, _, c5 _, ?_⟩
        show getP _ _
        rw [add1 (by omega), getP_some]
        refine ⟨k3 - 1, by omega, j3 + 1, by omega, rfl, hin.write c1 c3 (by simp), was.keep fun c' x hc _ hx => by rw [List.getElem?_set_ne (by omega)]; exact hx, by simp [hlen], wI.write c3 (by simp), ldset c1 eI⟩
      · obtain ⟨sI', sM', _, _, ea', _, _, upd⟩ := hin.at hlt
        obtain ⟨cs', u1, u2⟩ := upd [63]
        refine ⟨_, ea, _, rfl, _, u1, ?_⟩
        show getP _ _
        rw [add1 (by omega), getP_some]
        exact ⟨k - 1, by omega, i + 1, by omega, rfl, u2, was.keep fun c' x hc _ hx => by rw [List.getElem?_set_ne (by omega)]; exact hx, by simp [hlen]⟩
  -- the answers
  clear hin hi h75 hlt
  obtain ⟨v95, h96, ⟨w1, rfl, d1⟩, hr1⟩ := r112 ht hkeys hnice o n H56
  refine ⟨_, _, hr1, _, rfl, _, rfl, ?_⟩
  show boxP (.agg [I 0, .str [], .nils, .nils, .nils, .nils, I 0]) h96 _
  rw [boxP_agg _ _ _ (by simp [AV.isCell]), cells7 d1.l d1.a d1.c, getH_some]
  have was1 : Was (t.poss o n) m m2 (h96 ++ [.cells w1.cells]) v50 := was.keep fun c x _ _ hx => getElem?_grow (d1.g.at hx) _
  have e99 : (h96 ++ [Blk.cells w1.cells])[h96.length]? = some (.cells w1.cells) := by simp
  have l96 : H56.length ≤ h96.length := d1.g.1
  have l101 : h96.length + 1 = (h96 ++ [Blk.cells w1.cells]).length := by simp
  obtain ⟨k0, nm0, a7, a25, a11, a19, po0, rfl, wr11, wr25⟩ := d1.s
  rw [show (AV.agg [k0, nm0, a7, a25, a11, a19, po0]).cells = [k0, nm0, a7, a25, a11, a19, po0] from rfl]
  have wr11' := wr11.keep (Nat.le_refl _) (Hb := h96 ++ [Blk.cells [k0, nm0, a7, a25, a11, a19, po0]]) fun c q _ hq => getElem?_grow hq _
  have wr25' := wr25.keep (Nat.le_refl _) (Hb := h96 ++ [Blk.cells [k0, nm0, a7, a25, a11, a19, po0]]) fun c q _ hq => getElem?_grow hq _
  have e99' : (h96 ++ [Blk.cells [k0, nm0, a7, a25, a11, a19, po0]])[h96.length]? = some (.cells [k0, nm0, a7, a25, a11, a19, po0]) := e99
  have was1' : Was (t.poss o n) m m2 (h96 ++ [Blk.cells [k0, nm0, a7, a25, a11, a19, po0]]) v50 := was1
  show splitB _ _ _
  have hWl : ∀ {H : Heap} {v : AV} {sz : Nat} {sh : Option Nat}, Wr H56.length H v sz sh → ∃ N : Nat, (∀ H2, lenA H2 .sl v = some (.int .i64 ↑N)) ∧ N < 4611686018427387904 := by
    intro H v sz sh h
    rcases h with rfl | ⟨b, N, cs, rfl, _, _, _, h, _⟩
    · exact ⟨0, fun _ => rfl, by omega⟩
    · exact ⟨N, fun _ => rfl, h⟩
  clear was1 e99 wr11 wr25 d1 hr1
  generalize hH101 : h96 ++ [Blk.cells [k0, nm0, a7, a25, a11, a19, po0]] = H101 at *
  have l101' : h96.length + 1 = H101.length := by rw [← hH101]; simp
  cases hd : t.defB n with
  | true =>
    refine splitB_bool (fun _ => ?_) fun h => by cases h
    obtain ⟨N11, g11, n11⟩ := hWl wr11'
    refine ⟨_, rfl, a11, load_cells e99' rfl, _, g11 _, ?_⟩
    refine ⟨fun k f Hx => ∃ i : Nat, i + k = N11 ∧ f 127 = I ↑i ∧ Was (t.poss o n) m m2 Hx v50 ∧ Hx.length = H101.length ∧ Wr H56.length Hx a11 1 none ∧ (a25 = .nils ∨ ∃ b' N cs, a25 = .sl b' 0 N (some 4) ∧ H56.length ≤ b' ∧ Hx[b']? = some (.arr 4 0 0 cs) ∧ cs.length = N * 4 ∧ N < 4611686018427387904) ∧ Hx[h96.length]? = some (.cells [k0, nm0, a7, a25, a11, a19, po0]), ⟨N11, 0, by simp, rfl, was1', rfl, wr11', by rcases wr25' with h | ⟨b', N, cs, h1, h2, h3, h4, h5, _⟩; exact .inl h; exact .inr ⟨b', N, cs, h1, h2, h3, h4, h5⟩, e99'⟩, ?_⟩
    clear was1' wr11' wr25' e99'
    rintro k1 f1 H108 ⟨i, hi, h127, was1, lx, w11, w25, e99⟩
    rw [h127, lssI, getP_some, splitB_iff]
    refine ⟨fun hlt => ?_, fun hlt => ?_⟩
    · have hlt : i < N11 := by simpa using hlt
      rcases w11 with rfl | ⟨c, N, cs, rfl, c1, c2, c3, c4, c5⟩
      · have := (g11 []).symm.trans (show lenA [] .sl .nils = some (.int .i64 0) from rfl)
        simp at this; omega
      · have hNN : N = N11 := by
          have := (g11 []).symm.trans (show lenA [] .sl (.sl c 0 N none) = some (.int .i64 ↑N) from rfl)
          simp at this; omega
        subst hNN
        refine ⟨_, rfl, _, load_cells e99 rfl, _, iaddr_sl hlt, _, store_arr (v := .str [33]) c2 (Nat.zero_le _) (by omega) rfl, ?_⟩
        show getP _ _
        rw [add1 (by omega), getP_some]
        have hcn : c ≠ h96.length := by rintro rfl; rw [c2] at e99; cases e99
        refine ⟨k1 - 1, by omega, i + 1, by omega, rfl, was1.keep fun c' x _ hc hx => by rw [List.getElem?_set_ne (by omega)]; exact hx, by simp [lx], .inr ⟨c, N, _, rfl, c1, by rw [List.getElem?_set_self (List.getElem?_eq_some_iff.1 c2).1], by simp [c3], c4, c5⟩, ?_, by rw [List.getElem?_set_ne hcn]; exact e99⟩
        rcases w25 with h | ⟨b', N', cs', h1, h2, h3, h4, h5⟩
        · exact .inl h
        · have hcb : c ≠ b' := by rintro rfl; rw [c2] at h3; cases h3
          exact .inr ⟨b', N', cs', h1, h2, by rw [List.getElem?_set_ne hcb]; exact h3, h4, h5⟩
    · have g25 : ∃ N : Nat, (∀ H2, lenA H2 .sl a25 = some (.int .i64 ↑N)) ∧ N < 4611686018427387904 := by
        rcases w25 with rfl | ⟨b', N, cs, rfl, _, _, _, h⟩
        · exact ⟨0, fun _ => rfl, by omega⟩
        · exact ⟨N, fun _ => rfl, h⟩
      obtain ⟨N25, g25, n25⟩ := g25
      refine ⟨_, rfl, a25, load_cells e99 rfl, _, g25 _, ?_⟩
      refine ⟨fun k f Hx => ∃ i : Nat, i + k = N25 ∧ f 138 = I ↑i ∧ Was (t.poss o n) m m2 Hx v50 ∧ Hx.length = H101.length ∧ (a25 = .nils ∨ ∃ b' N cs, a25 = .sl b' 0 N (some 4) ∧ H56.length ≤ b' ∧ Hx[b']? = some (.arr 4 0 0 cs) ∧ cs.length = N * 4 ∧ N < 4611686018427387904) ∧ Hx[h96.length]? = some (.cells [k0, nm0, a7, a25, a11, a19, po0]), ⟨N25, 0, by simp, rfl, was1, lx, w25, e99⟩, ?_⟩
      clear was1 lx w25 e99 w11 hlt hi h127
      rintro k2 f2 H122 ⟨i, hi, h138, was1, lx, w25, e99⟩
      rw [h138, lssI, getP_some, splitB_iff]
      refine ⟨fun hlt => ?_, fun hlt => ?_⟩
      · have hlt : i < N25 := by simpa using hlt
        rcases w25 with rfl | ⟨c, N, cs, rfl, c1, c2, c3, c4⟩
        · have := (g25 []).symm.trans (show lenA [] .sl .nils = some (.int .i64 0) from rfl)
          simp at this; omega
        · have hNN : N = N25 := by
            have := (g25 []).symm.trans (show lenA [] .sl (.sl c 0 N (some 4)) = some (.int .i64 ↑N) from rfl)
            simp at this; omega
          subst hNN
          refine ⟨_, rfl, _, load_cells e99 rfl, .ptr c (i * 4), by simp [iaddrA, evNat, hlt, szOf], _, rfl, _, store_arr (v := .str [33]) c2 (Nat.zero_le _) (by omega) rfl, ?_⟩
          show getP _ _
          rw [add1 (by omega), getP_some]
          have hcn : c ≠ h96.length := by rintro rfl; rw [c2] at e99; cases e99
          exact ⟨k2 - 1, by omega, i + 1, by omega, rfl, was1.keep fun c' x _ hc hx => by rw [List.getElem?_set_ne (by omega)]; exact hx, by simp [lx], .inr ⟨c, N, _, rfl, c1, by rw [List.getElem?_set_self (List.getElem?_eq_some_iff.1 c2).1], by simp [c3], c4⟩, by rw [List.getElem?_set_ne hcn]; exact e99⟩
      · have hle2 : m2 ≤ H122.length := by omega
        show callP env 113 [TT t o, .str n] H122 _
        obtain ⟨v131, h132, p1, hr1⟩ := r113 ht o ho n (hm n) H122
        refine ⟨v131, h132, hr1, ?_⟩
        have was1 : Was (t.poss o n) m m2 h132 v50 := was1.keep fun c x _ _ hx => p1.g.at hx
        show callP env 9 [v131, v50] h132 _
        rw [callP_eq (r9 (ostr_like (t.poss o n)) (ostr_like (t.poss o n)) hpl hpl (PubLF.cons p1.was.pub (PubLF.cons was1.pub .nil)))]
        refine ⟨_, notB _, splitB_bool (fun h => by simp at h) fun _ => ?_⟩
        -- what is written into it
        have hw : ∃ N : Nat, (∀ H2, lenA H2 .sl v131 = some (.int .i64 ↑N)) ∧ N < 4611686018427387904 ∧ (N = 0 ∨ ∃ b cs, v131 = .sl b 0 N none ∧ H122.length ≤ b ∧ h132[b]? = some (.arr 1 0 0 cs) ∧ N ≤ cs.length) := by
          rcases p1.v with ⟨rfl, _⟩ | ⟨b, L, cs', q1, rfl, q3, q4, q5⟩
          · exact ⟨0, fun _ => rfl, by omega, .inl rfl⟩
          · refine ⟨L.length, fun _ => rfl, ?_, .inr ⟨b, cs', rfl, q3, q4, ?_⟩⟩
            · have := hpl; rw [q1] at this; exact this
            · have := congrArg List.length q5
              simp at this; omega
        obtain ⟨N, hlen, hN, hNb⟩ := hw
        refine ⟨_, hlen _, ?_⟩
        refine ⟨fun k f Hc => ∃ i : Nat, i + k = N ∧ f 156 = I ↑i ∧ Was (t.poss o n) m m2 Hc v50 ∧ h132.length ≤ Hc.length ∧ (N = 0 ∨ ∃ b cs, v131 = .sl b 0 N none ∧ H122.length ≤ b ∧ Hc[b]? = some (.arr 1 0 0 cs) ∧ N ≤ cs.length), ⟨N, 0, by simp, rfl, was1, Nat.le_refl _, hNb⟩, ?_⟩
        rintro k1 f1 H140 ⟨i, hi, h156, was2, hlg, hNb⟩
        rw [h156, lssI, getP_some, splitB_iff]
        refine ⟨fun hlt => ?_, fun hlt => ?_⟩
        · have hlt : i < N := by simpa using hlt
          rcases hNb with h0 | ⟨b, cs, rfl, q3, q4, q5⟩
          · omega
          · refine ⟨_, iaddr_sl hlt, _, store_arr (v := .str [45]) q4 (Nat.zero_le _) (by omega) rfl, ?_⟩
            show getP _ _
            rw [add1 (by omega), getP_some]
            refine ⟨k1 - 1, by omega, i + 1, by omega, rfl, was2.keep fun c x _ hc hx => ?_, by simp; omega, .inr ⟨b, _, rfl, q3, by rw [List.getElem?_set_self (List.getElem?_eq_some_iff.1 q4).1], by simp; omega⟩⟩
            rw [List.getElem?_set_ne (by have := hle2; omega)]; exact hx
        · obtain ⟨v146, h147, ⟨w2, rfl, d2⟩, hr2⟩ := r112 ht hkeys hnice o n H140
          refine ⟨_, _, hr2, _, rfl, _, rfl, ?_⟩
          show boxP (.agg [I 0, .str [], .nils, .nils, .nils, .nils, I 0]) h147 _
          rw [boxP_agg _ _ _ (by simp [AV.isCell]), cells7 d2.l d2.a d2.c, getH_some]
          have was3 : Was (t.poss o n) m m2 (h147 ++ [.cells w2.cells]) v50 := was2.keep fun c x _ _ hx => getElem?_grow (d2.g.at hx) _
          have e150 : (h147 ++ [Blk.cells w2.cells])[h147.length]? = some (.cells w2.cells) := by simp
          have d2f : t.defB n = true → Fresh H140.length (h147 ++ [.cells w2.cells]) w2 (t.get n).av := fun hd => (d2.f hd).mono (Nat.le_refl _) fun c x _ hx => getElem?_grow hx _
          have d2g : GrowH H140 (h147 ++ [.cells w2.cells]) := d2.g.trans (GrowH.app _ _)
          obtain ⟨v153, ⟨q, rfl⟩, hr3⟩ := r14 ha hg hl n (h147 ++ [.cells w2.cells])
          refine ⟨_, _, hr3, _, rfl, _, rfl, ?_⟩
          generalize hH152 : h147 ++ [Blk.cells w2.cells] = H152 at *
          show boxP (.agg [I 0, .str [], .nils, .nils, .nils, .nils, I 0]) H152 _
          rw [boxP_agg _ _ _ (by simp [AV.isCell]), cells7 (v := (findT l n).av) rfl ⟨_, rfl⟩ (findT_cells hg n), getH_some]
          have was4 : Was (t.poss o n) m m2 (H152 ++ [.cells (findT l n).av.cells]) v50 := was3.keep fun c x _ _ hx => getElem?_grow hx _
          have e150' := getElem?_grow e150 [Blk.cells (findT l n).av.cells]
          have e157 : (H152 ++ [Blk.cells (findT l n).av.cells])[H152.length]? = some (.cells (findT l n).av.cells) := by simp
          have d2f' : t.defB n = true → Fresh H140.length (H152 ++ [.cells (findT l n).av.cells]) w2 (t.get n).av := fun hd => (d2f hd).mono (Nat.le_refl _) fun c x _ hx => getElem?_grow hx _
          generalize hH159 : H152 ++ [Blk.cells (findT l n).av.cells] = H159 at *
          refine ⟨.bool true, by simp [eqA, hd], splitB_bool (fun _ => ?_) fun h => by cases h⟩
          refine ⟨_, rfl, splitB_bool (fun h => by simp at h) fun _ => ?_⟩
          obtain ⟨hal, dd, hdd, hfe⟩ := get_alike (l := l) (n := n) (by rw [htl]; exact hd)
          rw [htl] at hal
          obtain ⟨cs2, rfl⟩ := d2.a
          obtain ⟨k0, nm0, a7, a25, a11, a19, po0, ec, _, _⟩ := d2.s
          injection ec with ec
          subst ec
          refine ⟨.agg [k0, nm0, a7, a25, a11, a19, po0], load_cells0 e150' rfl, ?_⟩
          have c2 : ([k0, nm0, a7, a25, a11, a19, po0] : List AV).all AV.isCell = true := d2.c
          refine ⟨[k0, nm0, a7, a25, a11, a19, po0], fill7 c2, ?_⟩
          refine ⟨(findT l n).av, load_cells0 (cs := (findT l n).av.cells) (getElem?_grow e157 _) rfl, ?_⟩
          refine ⟨(findT l n).av.cells, fill7 (findT_cells hg n), ?_⟩
          have good2 : (findT l n).good := hfe ▸ hg dd hdd
          have good1 : (t.get n).good := by
            rcases hget with h | h
            · exact h
            · rw [hd] at h; cases h
          have f1 : (H159 ++ [Blk.arr 7 0 0 [k0, nm0, a7, a25, a11, a19, po0]] ++ [Blk.arr 7 0 0 (findT l n).av.cells])[H159.length]? = some (.arr 7 0 0 [k0, nm0, a7, a25, a11, a19, po0]) := by simp
          have f2 : (H159 ++ [Blk.arr 7 0 0 [k0, nm0, a7, a25, a11, a19, po0]] ++ [Blk.arr 7 0 0 (findT l n).av.cells])[(H159 ++ [Blk.arr 7 0 0 [k0, nm0, a7, a25, a11, a19, po0]]).length]? = some (.arr 7 0 0 (findT l n).av.cells) := by simp
          have pe : Pub false (H159 ++ [Blk.arr 7 0 0 [k0, nm0, a7, a25, a11, a19, po0]] ++ [Blk.arr 7 0 0 (findT l n).av.cells]) (.agg [k0, nm0, a7, a25, a11, a19, po0]) (t.get n).av :=
            Pub_down ((d2f' hd) _ fun c x _ hx => getElem?_grow (getElem?_grow hx _) _)
          have q1 := Pub.sl (cs' := (t.get n).av.cells) (xs := [(t.get n).av]) f1 (sh := some 7) (len := 1) (off := 0) rfl (by simp) (Pub.cells pe (.inr ⟨_, rfl⟩) (.inr ⟨_, rfl⟩)) rfl
          have q2 := Pub.sl (fr := false) (cs' := (findT l n).av.cells) (xs := [(findT l n).av]) f2 (sh := some 7) (len := 1) (off := 0) rfl (by simp [TDef.av, AV.cells]) (by
            have := PubLF.plain (H := H159 ++ [Blk.arr 7 0 0 [k0, nm0, a7, a25, a11, a19, po0]] ++ [Blk.arr 7 0 0 (findT l n).av.cells]) (vs := (findT l n).av.cells) (noIdsL_of (noIds_cells (TDef.noIds good2.ok)))
            simpa [TDef.av, AV.cells] using this) rfl
          show callP env 15 [.sl H159.length 0 1 (some 7), .sl (H159 ++ [Blk.arr 7 0 0 [k0, nm0, a7, a25, a11, a19, po0]]).length 0 1 (some 7), .bool true] (H159 ++ [Blk.arr 7 0 0 [k0, nm0, a7, a25, a11, a19, po0]] ++ [Blk.arr 7 0 0 (findT l n).av.cells]) _
          rw [callP_eq (r15 good1 good2 hal rfl rfl (PubLF.cons q1 (PubLF.cons q2 (PubLF.cons (Pub.scalar rfl) .nil))))]
          refine splitB_bool (fun _ => ?_) fun h => by cases h
          obtain ⟨v178, h179, p2, hr4⟩ := r113 ht o ho n (hm n) (H159 ++ [Blk.arr 7 0 0 [k0, nm0, a7, a25, a11, a19, po0]] ++ [Blk.arr 7 0 0 (findT l n).av.cells])
          refine ⟨v178, h179, hr4, ?_⟩
          show callP env 9 [v178, v50] h179 _
          rw [callP_eq (r9 (ostr_like (t.poss o n)) (ostr_like (t.poss o n)) hpl hpl (PubLF.cons p2.was.pub (PubLF.cons (was4.keep fun c x _ _ hx => p2.g.at (getElem?_grow (getElem?_grow hx _) _)).pub .nil)))]
          rw [pub_bool]; simp
  | false =>
    refine splitB_bool (fun h => by cases h) fun _ => ?_
    have hle2 : m2 ≤ H101.length := by omega
    show callP env 113 [TT t o, .str n] H101 _
    obtain ⟨v131, h132, p1, hr1⟩ := r113 ht o ho n (hm n) H101
    refine ⟨v131, h132, hr1, ?_⟩
    have was1 : Was (t.poss o n) m m2 h132 v50 := was1'.keep fun c x _ _ hx => p1.g.at hx
    show callP env 9 [v131, v50] h132 _
    rw [callP_eq (r9 (ostr_like (t.poss o n)) (ostr_like (t.poss o n)) hpl hpl (PubLF.cons p1.was.pub (PubLF.cons was1.pub .nil)))]
    refine ⟨_, notB _, splitB_bool (fun h => by simp at h) fun _ => ?_⟩
    -- what is written into it
    have hw : ∃ N : Nat, (∀ H2, lenA H2 .sl v131 = some (.int .i64 ↑N)) ∧ N < 4611686018427387904 ∧ (N = 0 ∨ ∃ b cs, v131 = .sl b 0 N none ∧ H101.length ≤ b ∧ h132[b]? = some (.arr 1 0 0 cs) ∧ N ≤ cs.length) := by
      rcases p1.v with ⟨rfl, _⟩ | ⟨b, L, cs', q1, rfl, q3, q4, q5⟩
      · exact ⟨0, fun _ => rfl, by omega, .inl rfl⟩
      · refine ⟨L.length, fun _ => rfl, ?_, .inr ⟨b, cs', rfl, q3, q4, ?_⟩⟩
        · have := hpl; rw [q1] at this; exact this
        · have := congrArg List.length q5
          simp at this; omega
    obtain ⟨N, hlen, hN, hNb⟩ := hw
    refine ⟨_, hlen _, ?_⟩
    refine ⟨fun k f Hc => ∃ i : Nat, i + k = N ∧ f 156 = I ↑i ∧ Was (t.poss o n) m m2 Hc v50 ∧ h132.length ≤ Hc.length ∧ (N = 0 ∨ ∃ b cs, v131 = .sl b 0 N none ∧ H101.length ≤ b ∧ Hc[b]? = some (.arr 1 0 0 cs) ∧ N ≤ cs.length), ⟨N, 0, by simp, rfl, was1, Nat.le_refl _, hNb⟩, ?_⟩
    rintro k1 f1 H140 ⟨i, hi, h156, was2, hlg, hNb⟩
    rw [h156, lssI, getP_some, splitB_iff]
    refine ⟨fun hlt => ?_, fun hlt => ?_⟩
    · have hlt : i < N := by simpa using hlt
      rcases hNb with h0 | ⟨b, cs, rfl, q3, q4, q5⟩
      · omega
      · refine ⟨_, iaddr_sl hlt, _, store_arr (v := .str [45]) q4 (Nat.zero_le _) (by omega) rfl, ?_⟩
        show getP _ _
        rw [add1 (by omega), getP_some]
        refine ⟨k1 - 1, by omega, i + 1, by omega, rfl, was2.keep fun c x _ hc hx => ?_, by simp; omega, .inr ⟨b, _, rfl, q3, by rw [List.getElem?_set_self (List.getElem?_eq_some_iff.1 q4).1], by simp; omega⟩⟩
        rw [List.getElem?_set_ne (by have := hle2; omega)]; exact hx
    · obtain ⟨v146, h147, ⟨w2, rfl, d2⟩, hr2⟩ := r112 ht hkeys hnice o n H140
      refine ⟨_, _, hr2, _, rfl, _, rfl, ?_⟩
      show boxP (.agg [I 0, .str [], .nils, .nils, .nils, .nils, I 0]) h147 _
      rw [boxP_agg _ _ _ (by simp [AV.isCell]), cells7 d2.l d2.a d2.c, getH_some]
      have was3 : Was (t.poss o n) m m2 (h147 ++ [.cells w2.cells]) v50 := was2.keep fun c x _ _ hx => getElem?_grow (d2.g.at hx) _
      have e150 : (h147 ++ [Blk.cells w2.cells])[h147.length]? = some (.cells w2.cells) := by simp
      have d2f : t.defB n = true → Fresh H140.length (h147 ++ [.cells w2.cells]) w2 (t.get n).av := fun hd => (d2.f hd).mono (Nat.le_refl _) fun c x _ hx => getElem?_grow hx _
      have d2g : GrowH H140 (h147 ++ [.cells w2.cells]) := d2.g.trans (GrowH.app _ _)
      obtain ⟨v153, ⟨q, rfl⟩, hr3⟩ := r14 ha hg hl n (h147 ++ [.cells w2.cells])
      refine ⟨_, _, hr3, _, rfl, _, rfl, ?_⟩
      generalize hH152 : h147 ++ [Blk.cells w2.cells] = H152 at *
      show boxP (.agg [I 0, .str [], .nils, .nils, .nils, .nils, I 0]) H152 _
      rw [boxP_agg _ _ _ (by simp [AV.isCell]), cells7 (v := (findT l n).av) rfl ⟨_, rfl⟩ (findT_cells hg n), getH_some]
      have was4 : Was (t.poss o n) m m2 (H152 ++ [.cells (findT l n).av.cells]) v50 := was3.keep fun c x _ _ hx => getElem?_grow hx _
      have e150' := getElem?_grow e150 [Blk.cells (findT l n).av.cells]
      have e157 : (H152 ++ [Blk.cells (findT l n).av.cells])[H152.length]? = some (.cells (findT l n).av.cells) := by simp
      have d2f' : t.defB n = true → Fresh H140.length (H152 ++ [.cells (findT l n).av.cells]) w2 (t.get n).av := fun hd => (d2f hd).mono (Nat.le_refl _) fun c x _ hx => getElem?_grow hx _
      generalize hH159 : H152 ++ [Blk.cells (findT l n).av.cells] = H159 at *
      refine ⟨.bool true, by simp [eqA, hd], splitB_bool (fun _ => ?_) fun h => by cases h⟩
      refine ⟨_, rfl, splitB_bool (fun _ => ?_) fun h => by simp at h⟩
      obtain ⟨v178, h179, p2, hr4⟩ := r113 ht o ho n (hm n) H159
      refine ⟨v178, h179, hr4, ?_⟩
      show callP env 9 [v178, v50] h179 _
      rw [callP_eq (r9 (ostr_like (t.poss o n)) (ostr_like (t.poss o n)) hpl hpl (PubLF.cons p2.was.pub (PubLF.cons (was4.keep fun c x _ _ hx => p2.g.at hx).pub .nil)))]
      rw [pub_bool]; simp
end Go.AM.T
