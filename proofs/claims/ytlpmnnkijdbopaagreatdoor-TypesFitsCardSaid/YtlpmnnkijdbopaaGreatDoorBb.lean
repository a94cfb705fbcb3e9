/- Reckoning with the A-machine's combinators. -/
import Derived.Test.YtlpmnnkijdbopaaGreatDoorAd
import Derived.Test.YtlpmnnkijdbopaaGreatDoorTa
import Derived.Test.YtlpmnnkijdbopaaGreatDoorBa
import Derived.KernelRfl
set_option linter.unusedSectionVars false
set_option linter.unnecessarySimpa false
set_option linter.deprecated false
set_option linter.unusedVariables false
set_option linter.unusedSimpArgs false
namespace Go.AM
set_option linter.unusedVariables false
set_option linter.unusedSimpArgs false

theorem getP_some {α : Type} (v : α) (K : α → Prop) : getP (some v) K = K v := by
  simp [getP]
theorem getP_none {α : Type} (K : α → Prop) : getP none K = False := by
  simp [getP]
theorem getH_some (H : Heap) (K : Heap → Prop) : getH (some H) K = K H := by
  simp [getH]
theorem get2_some (v : AV) (H : Heap) (K : AV → Heap → Prop) : get2 (some (v, H)) K = K v H := by
  refine propext ⟨?_, fun h => ⟨v, H, rfl, h⟩⟩
  rintro ⟨v', H', h, k⟩
  cases h; exact k
theorem splitB_iff (b : Bool) (A B : Prop) : splitB (.bool b) A B = ((b = true → A) ∧ (b = false → B)) := by
  cases b <;> simp [splitB]
theorem splitB_t (A B : Prop) : splitB (.bool true) A B = A := rfl
theorem splitB_f (A B : Prop) : splitB (.bool false) A B = B := rfl
theorem boxP_cell (v : AV) (H : Heap) (K : AV → Heap → Prop) (h : v.isCell = true) : boxP v H K = K (.ptr H.length 0) (H ++ [.cells [v]]) := by
  cases v <;> simp_all [boxP, AV.cells, AV.isCell]
theorem boxP_agg (cs : List AV) (H : Heap) (K : AV → Heap → Prop) (h : cs.all AV.isCell = true) : boxP (.agg cs) H K = K (.ptr H.length 0) (H ++ [.cells cs]) := by
  simp_all [boxP, AV.cells]

section
variable {E : Env}
theorem Ret.inj {g : Nat} {args : List AV} {H : Heap} {v v' : AV} {H1 H2 : Heap} (h : Ret E g args H v H1) (k : Ret E g args H v' H2) : v = v' ∧ H1 = H2 := by
  obtain ⟨a, ha⟩ := h; obtain ⟨b, hb⟩ := k
  have := (ha (max a b) (by omega)).symm.trans (hb (max a b) (by omega))
  simpa using this
theorem callP_eq {g : Nat} {args : List AV} {H : Heap} {v : AV} {H1 : Heap} (h : Ret E g args H v H1) (K : AV → Heap → Prop) : callP E g args H K = K v H1 := by
  refine propext ⟨?_, fun k => ⟨v, H1, h, k⟩⟩
  rintro ⟨v', H', h', k⟩
  obtain ⟨rfl, rfl⟩ := h.inj h'
  exact k
theorem callV_eq {g : Nat} {cp args : List AV} {H : Heap} {v : AV} {H1 : Heap} (h : Ret E g (args ++ cp) H v H1) (K : AV → Heap → Prop) : callV E (.fn g cp) args H K = K v H1 := by
  refine propext ⟨?_, fun k => ⟨g, cp, rfl, v, H1, h, k⟩⟩
  rintro ⟨g', cp', e, v', H', h', k⟩
  cases e
  obtain ⟨rfl, rfl⟩ := h.inj h'
  exact k
end

/-! ### Whole numbers -/
theorem wrap64 {n : Int} (h1 : -9223372036854775808 ≤ n) (h2 : n < 9223372036854775808) : IntKind.wrap .i64 n = n := by
  simp only [IntKind.wrap, IntKind.bits, IntKind.signed, Bool.true_and]
  split
  · rename_i h; simp at h; omega
  · rename_i h; simp at h; omega
theorem add1 {i : Nat} (h : i < 4611686018427387904) : binop .add (.int .i64 ↑i) (.int .i64 1) = some (.int .i64 ↑(i + 1)) := by
  simp only [binop]
  rw [wrap64 (by omega) (by omega)]
  simp
theorem sub1 {i : Nat} (h0 : 0 < i) (h : i < 4611686018427387904) : binop .sub (.int .i64 ↑i) (.int .i64 1) = some (.int .i64 ↑(i - 1)) := by
  simp only [binop]
  rw [wrap64 (by omega) (by omega)]
  have : (i : Int) - 1 = ((i - 1 : Nat) : Int) := by omega
  rw [this]; simp
theorem subN {i j : Nat} (h0 : j ≤ i) (h : i < 4611686018427387904) : binop .sub (.int .i64 ↑i) (.int .i64 ↑j) = some (.int .i64 ↑(i - j)) := by
  simp only [binop]
  rw [wrap64 (by omega) (by omega)]
  have : (i : Int) - j = ((i - j : Nat) : Int) := by omega
  rw [this]; simp
theorem lssI (k : IntKind) (a b : Int) : binop .lss (.int k a) (.int k b) = some (.bool (decide (a < b))) := by simp [binop]
theorem leqI (k : IntKind) (a b : Int) : binop .leq (.int k a) (.int k b) = some (.bool (decide (a ≤ b))) := by simp [binop]
theorem gtrI (k : IntKind) (a b : Int) : binop .gtr (.int k a) (.int k b) = some (.bool (decide (b < a))) := by simp [binop]
theorem geqI (k : IntKind) (a b : Int) : binop .geq (.int k a) (.int k b) = some (.bool (decide (b ≤ a))) := by simp [binop]
theorem eqlI (k : IntKind) (a b : Int) : binop .eql (.int k a) (.int k b) = some (.bool (a == b)) := by simp [binop]
theorem neqI (k : IntKind) (a b : Int) : binop .neq (.int k a) (.int k b) = some (.bool (a != b)) := by simp [binop]
theorem eqlS (a b : Str) : binop .eql (.str a) (.str b) = some (.bool (a == b)) := rfl
theorem neqS (a b : Str) : binop .neq (.str a) (.str b) = some (.bool (a != b)) := rfl
theorem geqS (a b : Str) : binop .geq (.str a) (.str b) = some (.bool (!Op.bytesLess a b)) := rfl
theorem lssS (a b : Str) : binop .lss (.str a) (.str b) = some (.bool (Op.bytesLess a b)) := rfl
theorem notB (b : Bool) : unop .not (.bool b) = some (.bool !b) := rfl
theorem len_str (H : Heap) (s : Str) : lenA H .str (.str s) = some (.int .i64 ↑s.length) := rfl
theorem len_sl (H : Heap) (b off n : Nat) (sh : Option Nat) : lenA H .sl (.sl b off n sh) = some (.int .i64 ↑n) := rfl
theorem len_nils (H : Heap) : lenA H .sl .nils = some (.int .i64 0) := rfl
theorem len_data (H : Heap) (xs : List AV) : lenA H .sl (.data xs) = some (.int .i64 ↑xs.length) := rfl
theorem slice_to {s : Str} {n : Nat} {k : IntKind} (h : n ≤ s.length) : sliceA 0 (.str s) none (some (.int k ↑n)) none = some (.str (s.take n)) := by
  simp [sliceA, evNat, h]
theorem slice_from {s : Str} {n : Nat} {k : IntKind} (h : n ≤ s.length) : sliceA 0 (.str s) (some (.int k ↑n)) none none = some (.str (s.drop n)) := by
  simp [sliceA, evNat, h]

/-! ### What a slice of plain memory holds -/
def SLike (a : AV) (xs : List AV) : Prop := (a = .nils ∧ xs = []) ∨ a = .data xs
theorem SLike.nils : SLike .nils [] := .inl ⟨rfl, rfl⟩
theorem SLike.data (xs : List AV) : SLike (.data xs) xs := .inr rfl
theorem SLike.len {a : AV} {xs : List AV} (h : SLike a xs) (H : Heap) : lenA H .sl a = some (.int .i64 ↑xs.length) := by
  rcases h with ⟨rfl, rfl⟩ | rfl <;> rfl
theorem SLike.iaddr {a : AV} {xs : List AV} (h : SLike a xs) {i : Nat} {v : AV} {k : IntKind} {sh : Option Nat} (hi : xs[i]? = some v) (ha : ∀ x ∈ xs, x.cells.length = szOf sh) : iaddrA sh a (.int k ↑i) = some (.dptr v.cells) := by
  rcases h with ⟨rfl, rfl⟩ | rfl
  · simp at hi
  · have : xs.all (fun x => x.cells.length == szOf sh) = true := by simpa using ha
    simp [iaddrA, evNat, hi, this]
theorem load_d1 (v : AV) (H : Heap) : loadA none (.dptr [v]) H = some v := rfl
theorem load_dn {cs : List AV} {n : Nat} (h : cs.length = n) (H : Heap) : loadA (some n) (.dptr cs) H = some (.agg cs) := by
  subst h; simp [loadA, mkv]
theorem SLike.noIds {a : AV} {xs : List AV} (h : SLike a xs) : AV.noIds a = AV.noIdsL xs := by
  rcases h with ⟨rfl, rfl⟩ | rfl <;> rfl

/-! ### Made plain -/
def PubLF (fr : Bool) (H : Heap) (vs vs' : List AV) : Prop := ∃ k, ∀ k', k ≤ k' → pubL fr k' H vs = some vs'
theorem upF {P : Nat → Prop} : (∃ k, ∀ k', k ≤ k' → P (k' + 1)) → ∃ k, ∀ k', k ≤ k' → P k' := by
  rintro ⟨k, hk⟩
  refine ⟨k + 1, fun k' hk' => ?_⟩
  obtain ⟨i, rfl⟩ : ∃ i, k' = i + 1 := ⟨k' - 1, by omega⟩
  exact hk i (by omega)
section
variable {fr : Bool} {H : Heap}
theorem Pub.inj {v a b : AV} (h : Pub fr H v a) (k : Pub fr H v b) : a = b := by
  obtain ⟨m, hm⟩ := h; obtain ⟨n, hn⟩ := k
  have := (hm (max m n) (by omega)).symm.trans (hn (max m n) (by omega))
  simpa using this
theorem Pub.scalar {v : AV} (h : v.scalar = true) : Pub fr H v v := by
  refine upF (P := fun k => pub fr k H v = some v) ⟨0, fun k _ => ?_⟩
  cases v <;> simp_all [AV.scalar, pub]
theorem pub_bool (b : Bool) (v : AV) : Pub fr H (.bool b) v = (v = .bool b) := propext ⟨fun h => (h.inj (Pub.scalar rfl)), fun h => by subst h; exact Pub.scalar rfl⟩
theorem pub_int (k : IntKind) (b : Int) (v : AV) : Pub fr H (.int k b) v = (v = .int k b) := propext ⟨fun h => (h.inj (Pub.scalar rfl)), fun h => by subst h; exact Pub.scalar rfl⟩
theorem pub_str (b : Str) (v : AV) : Pub fr H (.str b) v = (v = .str b) := propext ⟨fun h => (h.inj (Pub.scalar rfl)), fun h => by subst h; exact Pub.scalar rfl⟩
theorem PubLF.nil : PubLF fr H [] [] := upF (P := fun k => pubL fr k H [] = some []) ⟨0, fun k _ => rfl⟩
theorem PubLF.cons {v v' : AV} {r r' : List AV} (h : Pub fr H v v') (k : PubLF fr H r r') : PubLF fr H (v :: r) (v' :: r') := by
  obtain ⟨a, ha⟩ := h; obtain ⟨b, hb⟩ := k
  refine upF (P := fun k => pubL fr k H (v :: r) = some (v' :: r')) ⟨max a b, fun k hk => ?_⟩
  simp [pubL, ha k (by omega), hb k (by omega)]
theorem PubLF.scalars {vs : List AV} (h : ∀ v ∈ vs, v.scalar = true) : PubLF fr H vs vs := by
  induction vs with
  | nil => exact .nil
  | cons v r ih => exact .cons (.scalar (h v (by simp))) (ih fun x hx => h x (by simp [hx]))
theorem Pub.agg {cs cs' : List AV} (h : PubLF fr H cs cs') : Pub fr H (.agg cs) (.agg cs') := by
  obtain ⟨a, ha⟩ := h
  refine upF (P := fun k => pub fr k H (.agg cs) = some (.agg cs')) ⟨a, fun k hk => ?_⟩
  simp [pub, ha k hk]
theorem Pub.tup {cs cs' : List AV} (h : PubLF fr H cs cs') : Pub fr H (.tup cs) (.tup cs') := by
  obtain ⟨a, ha⟩ := h
  refine upF (P := fun k => pub fr k H (.tup cs) = some (.tup cs')) ⟨a, fun k hk => ?_⟩
  simp [pub, ha k hk]
theorem Pub.scalars2 {a b : AV} (ha : a.scalar = true := by rfl) (hb : b.scalar = true := by rfl) : Pub fr H (.tup [a, b]) (.tup [a, b]) := Pub.tup (.cons (.scalar ha) (.cons (.scalar hb) .nil))
theorem Pub.fn {g : Nat} {cs cs' : List AV} (h : PubLF fr H cs cs') : Pub fr H (.fn g cs) (.fn g cs') := by
  obtain ⟨a, ha⟩ := h
  refine upF (P := fun k => pub fr k H (.fn g cs) = some (.fn g cs')) ⟨a, fun k hk => ?_⟩
  simp [pub, ha k hk]
theorem Pub.ptr {b off : Nat} {cs cs' : List AV} (hb : H[b]? = some (.cells cs)) (ho : off ≤ cs.length) (h : PubLF fr H (cs.drop off) cs') : Pub fr H (.ptr b off) (.dptr cs') := by
  obtain ⟨a, ha⟩ := h
  refine upF (P := fun k => pub fr k H (.ptr b off) = some (.dptr cs')) ⟨a, fun k hk => ?_⟩
  simp [pub, ha k hk, hb, ho]
theorem Pub.map {b : Nat} {ks vs ks' vs' : List AV} (hb : H[b]? = some (.map ks vs)) (h : PubLF fr H ks ks') (k : PubLF fr H vs vs') : Pub fr H (.map b) (.dmap ks' vs') := by
  obtain ⟨a, ha⟩ := h; obtain ⟨c, hc⟩ := k
  refine upF (P := fun k => pub fr k H (.map b) = some (.dmap ks' vs')) ⟨max a c, fun k hk => ?_⟩
  simp [pub, ha k (by omega), hc k (by omega), hb]
theorem Pub.sl {b off len sz tag fz : Nat} {sh : Option Nat} {cs cs' xs : List AV} (hb : H[b]? = some (.arr sz tag fz cs)) (hs : sz = szOf sh) (ho : off + len * sz ≤ cs.length) (h : PubLF fr H ((cs.drop off).take (len * sz)) cs') (hc : chunk sh len cs' = some xs) : Pub fr H (.sl b off len sh) (.data xs) := by
  obtain ⟨a, ha⟩ := h
  refine upF (P := fun k => pub fr k H (.sl b off len sh) = some (.data xs)) ⟨a, fun k hk => ?_⟩
  subst hs
  simp [pub, ha k hk, hb, ho, hc]
theorem chunk_none : ∀ (xs : List AV), chunk none xs.length xs = some xs
  | [] => rfl
  | x :: r => by simp [chunk, mkv, szOf, chunk_none r]
theorem chunk_some (n : Nat) : ∀ (xs : List (List AV)), (∀ x ∈ xs, x.length = n) → chunk (some n) xs.length xs.flatten = some (xs.map .agg)
  | [], _ => rfl
  | x :: r, h => by
    have hx := h x (by simp)
    have := chunk_some n r fun y hy => h y (by simp [hy])
    subst hx
    simp [chunk, mkv, szOf, this]
/-- Slices of cells that lead nowhere. -/
theorem Pub.row {b tag fz : Nat} {cs : List AV} (hb : H[b]? = some (.arr 1 tag fz cs)) (hc : ∀ v ∈ cs, v.scalar = true) : Pub fr H (.sl b 0 cs.length none) (.data cs) :=
  Pub.sl hb rfl (by simp) (by simpa using PubLF.scalars hc) (chunk_none cs)
theorem PubL.of {vs vs' : List AV} (h : PubLF false H vs vs') : PubL H vs vs' := h
theorem PubLF.plain {vs : List AV} (h : AV.noIdsL vs = true) : PubLF false H vs vs := PubL.plain h
end
end Go.AM
namespace Go.AM
section
variable {E : Env}
/-- A call whose answer is told by what holds of it. -/
theorem Ret.openQ {g : Nat} {f : RF} {args : List AV} {H : Heap} (hp : E.prim g = none) (hf : E.fn g = some f) (hi : f.iso = false) {Q : AV → Heap → Prop}
    (h : X E f.body (fnPost f.res Q) (args ++ List.replicate (f.nt - args.length) undef) H) : ∃ v H', Q v H' ∧ Ret E g args H v H' := by
  obtain ⟨out, s', H1, ⟨k, hk⟩, h⟩ := W_sound (X_sound h)
  obtain ⟨hno, v, hr, hQ⟩ := fnPost_ok h
  refine ⟨v, H1, hQ, k + 1, fun k' hk' => ?_⟩
  obtain ⟨i, rfl⟩ : ∃ i, k' = i + 1 := ⟨k' - 1, by omega⟩
  obtain ⟨vs, h1, h2⟩ := Option.map_eq_some_iff.1 hr
  subst h2
  simp only [callF, hp, hf, hi, Bool.false_eq_true, if_false, bodyF, hk i (by omega), Option.bind_some]
  cases out with
  | exit id => exact absurd rfl (hno id)
  | normal => simp only [h1, Option.map_some]
  | ret => simp only [h1, Option.map_some]
theorem Ret.isoQ {g : Nat} {f : RF} {args args' : List AV} {H : Heap} (hp : E.prim g = none) (hf : E.fn g = some f) (hi : f.iso = true) (ha : PubL H args args') {Q : AV → Prop}
    (h : X E f.body (fnPost f.res fun v0 H1 => ∃ v, Pub (!AV.noIdsL args) H1 v0 v ∧ Q v) (args' ++ List.replicate (f.nt - args'.length) undef) []) : ∃ v, Q v ∧ Ret E g args H v H := by
  obtain ⟨out, s', H1, ⟨k, hk⟩, h⟩ := W_sound (X_sound h)
  obtain ⟨hno, v0, hr, v, ⟨k2, h2⟩, hQ⟩ := fnPost_ok h
  obtain ⟨k1, h1⟩ := ha
  refine ⟨v, hQ, max k (max k1 k2) + 1, fun k' hk' => ?_⟩
  obtain ⟨i, rfl⟩ : ∃ i, k' = i + 1 := ⟨k' - 1, by omega⟩
  obtain ⟨vs, h3, h4⟩ := Option.map_eq_some_iff.1 hr
  subst h4
  simp only [callF, hp, hf, hi, if_true, h1 i (by omega), Option.bind_some, bodyF, hk i (by omega)]
  cases out with
  | exit id => exact absurd rfl (hno id)
  | normal => simp only [h3, Option.map_some, Option.bind_some, h2 i (by omega)]
  | ret => simp only [h3, Option.map_some, Option.bind_some, h2 i (by omega)]
end
theorem iaddr_sl {b off n i : Nat} {k : IntKind} (h : i < n) : iaddrA none (.sl b off n none) (.int k ↑i) = some (.ptr b (off + i)) := by
  simp [iaddrA, evNat, h, szOf]
theorem load_arr {H : Heap} {b off sz tag fz : Nat} {cs : List AV} {v : AV} (hb : H[b]? = some (.arr sz tag fz cs)) (h : cs[off]? = some v) : loadA none (.ptr b off) H = some v := by
  simp [loadA, hb, mkv, List.head?_drop, h]
theorem wr1 {cs : List AV} {off : Nat} {v : AV} (h : off < cs.length) : wr cs off [v] = cs.set off v := by
  simp [wr, List.set_eq_take_append_cons_drop, h]
theorem store_arr {H : Heap} {b off sz tag fz : Nat} {cs : List AV} {v : AV} (hb : H[b]? = some (.arr sz tag fz cs)) (hf : fz ≤ off) (ho : off < cs.length) (hv : v.isCell = true) :
    storeA 1 (.ptr b off) v H = some (H.set b (.arr sz tag fz (cs.set off v))) := by
  have hc : v.cells = [v] := by cases v <;> simp_all [AV.cells, AV.isCell]
  simp [storeA, hc, hv, hb, hf, ← wr1 ho, show off + 1 ≤ cs.length by omega]
theorem sub_lo {b off n i : Nat} {k : IntKind} (h : i ≤ n) : sliceA 1 (.sl b off n none) (some (.int k ↑i)) none none = some (.sl b (off + i) (n - i) none) := by
  simp [sliceA, evNat, h, szOf]
theorem sub_hi {b off n i : Nat} {k : IntKind} (h : i ≤ n) : sliceA 1 (.sl b off n none) none (some (.int k ↑i)) none = some (.sl b off i none) := by
  simp [sliceA, evNat, h, szOf]
end Go.AM

/- Contracts: texts and their ends. -/
namespace Go.AM.T
set_option linter.unusedVariables false
set_option linter.unusedSimpArgs false
set_option maxRecDepth 100000

/-- Is t the end of s? -/
def sufB (s t : Str) : Bool := decide (t.length ≤ s.length) && (s.drop (s.length - t.length) == t)
def preB (s t : Str) : Bool := decide (t.length ≤ s.length) && (s.take t.length == t)
abbrev Short (s : Str) : Prop := s.length < 4611686018427387904

theorem r82 (s t : Str) (hs : Short s) (H : Heap) : Ret env 82 [.str s, .str t] H (.bool (preB s t)) H := by
  refine Ret.isoX (f := c82) rfl rfl rfl (PubL.plain rfl) (Eq.mpr (x82 _ _ _ _ _) ?_)
  simp only [len_str, getP_some, geqI, splitB_iff, decide_eq_true_eq, decide_eq_false_iff_not]
  refine ⟨fun h => ?_, fun h => ?_⟩
  · have h' : t.length ≤ s.length := by omega
    simp only [slice_to h', getP_some, eqlS, pub_bool, preB, h', decide_true, Bool.true_and]
  · have h' : ¬ t.length ≤ s.length := by omega
    simp only [pub_bool, preB, h', decide_false, Bool.false_and]
theorem k82 (s t : Str) (hs : Short s) (H : Heap) (K) : callP env 82 [.str s, .str t] H K = K (.bool (preB s t)) H := callP_eq (r82 s t hs H) K
theorem r79 (s t : Str) (hs : Short s) (H : Heap) : Ret env 79 [.str s, .str t] H (.bool (sufB s t)) H := by
  refine Ret.isoX (f := c79) rfl rfl rfl (PubL.plain rfl) (Eq.mpr (x79 _ _ _ _ _) ?_)
  simp only [len_str, getP_some, geqI, splitB_iff, decide_eq_true_eq, decide_eq_false_iff_not]
  refine ⟨fun h => ?_, fun h => ?_⟩
  · have h' : t.length ≤ s.length := by omega
    simp only [subN h' hs, getP_some, slice_from (show s.length - t.length ≤ s.length by omega), eqlS, pub_bool, sufB, h', decide_true, Bool.true_and]
  · have h' : ¬ t.length ≤ s.length := by omega
    simp only [pub_bool, sufB, h', decide_false, Bool.false_and]
theorem k79 (s t : Str) (hs : Short s) (H : Heap) (K) : callP env 79 [.str s, .str t] H K = K (.bool (sufB s t)) H := callP_eq (r79 s t hs H) K
def trimS (s t : Str) : Str := if sufB s t then s.take (s.length - t.length) else s
def cutP (s t : Str) : Str := if preB s t then s.drop t.length else s
theorem r80 (s t : Str) (hs : Short s) (H : Heap) : Ret env 80 [.str s, .str t] H (.str (trimS s t)) H := by
  refine Ret.isoX (f := c80) rfl rfl rfl (PubL.plain rfl) (Eq.mpr (x80 _ _ _ _ _) ?_)
  simp only [k79 s t hs, len_str, getP_some, splitB_iff]
  refine ⟨fun h => ?_, fun h => ?_⟩
  · have h' : t.length ≤ s.length := by simp [sufB] at h; exact h.1
    simp only [subN h' hs, getP_some, slice_to (show s.length - t.length ≤ s.length by omega), pub_str, trimS, h, if_true]
  · simp only [pub_str, trimS, h, Bool.false_eq_true, if_false]
theorem k80 (s t : Str) (hs : Short s) (H : Heap) (K) : callP env 80 [.str s, .str t] H K = K (.str (trimS s t)) H := callP_eq (r80 s t hs H) K
theorem r78 (s t : Str) (hs : Short s) (H : Heap) : Ret env 78 [.str s, .str t] H (.tup [.str (cutP s t), .bool (preB s t)]) H := by
  refine Ret.isoX (f := c78) rfl rfl rfl (PubL.plain rfl) (Eq.mpr (x78 _ _ _ _ _) ?_)
  simp only [k82 s t hs, notB, len_str, getP_some, splitB_iff]
  refine ⟨fun h => ?_, fun h => ?_⟩
  · have e : preB s t = false := by simpa using h
    simp only [cutP, e, Bool.false_eq_true, if_false]
    exact Pub.scalars2
  · have e : preB s t = true := by simpa using h
    have h' : t.length ≤ s.length := by simp [preB] at e; exact e.1
    simp only [slice_from h', getP_some, cutP, e, if_true]
    exact Pub.scalars2
theorem k78 (s t : Str) (hs : Short s) (H : Heap) (K) : callP env 78 [.str s, .str t] H K = K (.tup [.str (cutP s t), .bool (preB s t)]) H := callP_eq (r78 s t hs H) K
theorem r46 (s t : Str) (hs : Short s) (H : Heap) : Ret env 46 [.str s, .str t] H (.tup [.str (cutP s t), .bool (preB s t)]) H := by
  refine Ret.isoX (f := c46) rfl rfl rfl (PubL.plain rfl) (Eq.mpr (x46 _ _ _ _ _) ?_)
  simp only [k78 s t hs, extA, List.getElem?_cons_zero, List.getElem?_cons_succ, getP_some]
  exact Pub.scalars2
theorem k46 (s t : Str) (hs : Short s) (H : Heap) (K) : callP env 46 [.str s, .str t] H K = K (.tup [.str (cutP s t), .bool (preB s t)]) H := callP_eq (r46 s t hs H) K
theorem r47 (s t : Str) (hs : Short s) (H : Heap) : Ret env 47 [.str s, .str t] H (.str (trimS s t)) H := by
  refine Ret.isoX (f := c47) rfl rfl rfl (PubL.plain rfl) (Eq.mpr (x47 _ _ _ _ _) ?_)
  simp only [k80 s t hs, pub_str]
theorem k47 (s t : Str) (hs : Short s) (H : Heap) (K) : callP env 47 [.str s, .str t] H K = K (.str (trimS s t)) H := callP_eq (r47 s t hs H) K
theorem r48 (s t : Str) (hs : Short s) (H : Heap) : Ret env 48 [.str s, .str t] H (.bool (sufB s t)) H := by
  refine Ret.isoX (f := c48) rfl rfl rfl (PubL.plain rfl) (Eq.mpr (x48 _ _ _ _ _) ?_)
  simp only [k79 s t hs, pub_bool]
theorem k48 (s t : Str) (hs : Short s) (H : Heap) (K) : callP env 48 [.str s, .str t] H K = K (.bool (sufB s t)) H := callP_eq (r48 s t hs H) K
abbrev nonNullB (s : Str) : Bool := sufB s [33]
abbrev nullableS (s : Str) : Str := trimS s [33]
theorem r23 (s : Str) (hs : Short s) (H : Heap) : Ret env 23 [.str s] H (.bool (nonNullB s)) H := by
  refine Ret.isoX (f := c23) rfl rfl rfl (PubL.plain rfl) (Eq.mpr (x23 _ _ _ _) ?_)
  simp only [k48 s _ hs, pub_bool]
theorem k23 (s : Str) (hs : Short s) (H : Heap) (K) : callP env 23 [.str s] H K = K (.bool (nonNullB s)) H := callP_eq (r23 s hs H) K
theorem r24 (s : Str) (hs : Short s) (H : Heap) : Ret env 24 [.str s] H (.str (nullableS s)) H := by
  refine Ret.isoX (f := c24) rfl rfl rfl (PubL.plain rfl) (Eq.mpr (x24 _ _ _ _) ?_)
  simp only [k47 s _ hs, pub_str]
theorem k24 (s : Str) (hs : Short s) (H : Heap) (K) : callP env 24 [.str s] H K = K (.str (nullableS s)) H := callP_eq (r24 s hs H) K
theorem trim_le (s t : Str) : (trimS s t).length ≤ s.length := by unfold trimS; split <;> simp
theorem cut_le (s t : Str) : (cutP s t).length ≤ s.length := by unfold cutP; split <;> simp
def isList (s : Str) : Bool := preB (nullableS s) [91]
def itemS (s : Str) : Str := if isList s then trimS (cutP (nullableS s) [91]) [93] else []
theorem r25 (s : Str) (hs : Short s) (H : Heap) : Ret env 25 [.str s] H (.tup [.str (itemS s), .bool (isList s)]) H := by
  refine Ret.isoX (f := c25) rfl rfl rfl (PubL.plain rfl) (Eq.mpr (x25 _ _ _ _) ?_)
  have h1 : Short (nullableS s) := Nat.lt_of_le_of_lt (trim_le s _) hs
  have h2 : Short (cutP (nullableS s) [91]) := Nat.lt_of_le_of_lt (cut_le _ _) h1
  simp only [k24 s hs, k46 _ _ h1, extA, List.getElem?_cons_zero, List.getElem?_cons_succ, getP_some, notB, splitB_iff]
  refine ⟨fun h => ?_, fun h => ?_⟩
  · have e : isList s = false := by simpa [isList] using h
    simp only [itemS, e, Bool.false_eq_true, if_false]
    exact Pub.scalars2
  · have e : isList s = true := by simpa [isList] using h
    simp only [k47 _ _ h2, itemS, e, if_true]
    exact Pub.scalars2
theorem k25 (s : Str) (hs : Short s) (H : Heap) (K) : callP env 25 [.str s] H K = K (.tup [.str (itemS s), .bool (isList s)]) H := callP_eq (r25 s hs H) K
end Go.AM.T

/- Contracts: lists and tables of types. -/
namespace Go.AM.T
set_option linter.unusedVariables false
set_option linter.unusedSimpArgs false
set_option maxRecDepth 100000

/-! ### Where a thing stands in a list -/
def idxFrom {α : Type} (p : α → Bool) : List α → Nat → Int
  | [], _ => -1
  | y :: r, i => if p y then ↑i else idxFrom p r (i + 1)
theorem idxFrom_nonneg {α : Type} (p : α → Bool) : ∀ (l : List α) (i : Nat), decide (0 ≤ idxFrom p l i) = l.any p
  | [], i => by simp [idxFrom]
  | y :: r, i => by
    unfold idxFrom
    cases h : p y
    · simp [h, ← idxFrom_nonneg p r (i + 1)]
    · simp [h]
theorem drop_cons {α : Type} {l : List α} {i : Nat} {v : α} (h : l[i]? = some v) : l.drop i = v :: l.drop (i + 1) := by
  obtain ⟨hi, rfl⟩ := List.getElem?_eq_some_iff.1 h
  exact List.drop_eq_getElem_cons hi
theorem get_map {α β : Type} {l : List α} {f : α → β} {i : Nat} (h : i < l.length) : (l.map f)[i]? = some (f l[i]) := by simp [h]

abbrev I (n : Int) : AV := .int .i64 n
abbrev ints (l : List Int) : List AV := l.map I
abbrev strs (l : List Str) : List AV := l.map .str
theorem strs_noIds : ∀ l : List Str, AV.noIdsL (strs l) = true
  | [] => rfl
  | x :: r => by simp [AV.noIdsL, AV.noIds, strs_noIds r]
theorem ints_noIds : ∀ l : List Int, AV.noIdsL (ints l) = true
  | [] => rfl
  | x :: r => by simp [AV.noIdsL, AV.noIds, ints_noIds r]
theorem strs_cells (l : List Str) : ∀ x ∈ strs l, x.cells.length = szOf none := by simp [AV.cells, szOf]
theorem ints_cells (l : List Int) : ∀ x ∈ ints l, x.cells.length = szOf none := by simp [AV.cells, szOf]
theorem strs_scalar (l : List Str) : ∀ x ∈ strs l, x.scalar = true := by simp [AV.scalar]
theorem ints_scalar (l : List Int) : ∀ x ∈ ints l, x.scalar = true := by simp [AV.scalar]
abbrev ShortL {α : Type} (l : List α) : Prop := l.length < 4611686018427387904

theorem r68 {a : AV} {l : List Int} (ha : SLike a (ints l)) (hl : ShortL l) (x : Int) {args : List AV} {H : Heap} (hp : PubL H args [a, I x]) : Ret env 68 args H (I (idxFrom (fun y => x == y) l 0)) H := by
  refine Ret.isoX (f := c68) rfl rfl rfl hp (Eq.mpr (x68 _ _ _ _ _) ?_)
  simp only [ha.len, getP_some]
  refine ⟨fun n f H => ∃ i : Nat, i + n = l.length ∧ f 8 = I ↑i ∧ H = [] ∧ idxFrom (fun y => x == y) l 0 = idxFrom (fun y => x == y) (l.drop i) i, ⟨l.length, 0, by simp, rfl, rfl, rfl⟩, ?_⟩
  rintro n f H ⟨i, hi, h8, rfl, hr⟩
  simp only [h8, lssI, getP_some, splitB_iff, decide_eq_true_eq, decide_eq_false_iff_not, List.length_map]
  refine ⟨fun h => ?_, fun h => ?_⟩
  · have hlt : i < l.length := by omega
    simp only [ha.iaddr (get_map hlt) (ints_cells l), getP_some, AV.cells, load_d1, eqlI, splitB_iff]
    rw [drop_cons (List.getElem?_eq_getElem hlt)] at hr
    refine ⟨fun e => ?_, fun e => ?_⟩
    · rw [pub_int, hr]; simp only [idxFrom, e, if_true]
    · rw [add1 (by omega), getP_some]
      refine ⟨n - 1, by omega, i + 1, by omega, rfl, by trivial, ?_⟩
      rw [hr]; simp only [idxFrom, e, Bool.false_eq_true, if_false]
  · have : l.drop i = [] := by simp; omega
    rw [pub_int, hr, this]; rfl
theorem r50 {a : AV} {l : List Str} (ha : SLike a (strs l)) (hl : ShortL l) (x : Str) {args : List AV} {H : Heap} (hp : PubL H args [a, .str x]) : Ret env 50 args H (I (idxFrom (fun y => x == y) l 0)) H := by
  refine Ret.isoX (f := c50) rfl rfl rfl hp (Eq.mpr (x50 _ _ _ _ _) ?_)
  simp only [ha.len, getP_some]
  refine ⟨fun n f H => ∃ i : Nat, i + n = l.length ∧ f 8 = I ↑i ∧ H = [] ∧ idxFrom (fun y => x == y) l 0 = idxFrom (fun y => x == y) (l.drop i) i, ⟨l.length, 0, by simp, rfl, rfl, rfl⟩, ?_⟩
  rintro n f H ⟨i, hi, h8, rfl, hr⟩
  simp only [h8, lssI, getP_some, splitB_iff, decide_eq_true_eq, decide_eq_false_iff_not, List.length_map]
  refine ⟨fun h => ?_, fun h => ?_⟩
  · have hlt : i < l.length := by omega
    simp only [ha.iaddr (get_map hlt) (strs_cells l), getP_some, AV.cells, load_d1, eqlS, splitB_iff]
    rw [drop_cons (List.getElem?_eq_getElem hlt)] at hr
    refine ⟨fun e => ?_, fun e => ?_⟩
    · rw [pub_int, hr]; simp only [idxFrom, e, if_true]
    · rw [add1 (by omega), getP_some]
      refine ⟨n - 1, by omega, i + 1, by omega, rfl, by trivial, ?_⟩
      rw [hr]; simp only [idxFrom, e, Bool.false_eq_true, if_false]
  · have : l.drop i = [] := by simp; omega
    rw [pub_int, hr, this]; rfl
theorem any_eq_contains {α : Type} [BEq α] (l : List α) (x : α) : (l.any fun y => x == y) = l.contains x := by
  induction l with
  | nil => rfl
  | cons y r ih => simp [List.any_cons, ih]
theorem r37 {a : AV} {l : List Int} (ha : SLike a (ints l)) (hl : ShortL l) (x : Int) {args : List AV} {H : Heap} (hp : PubL H args [a, I x]) : Ret env 37 args H (.bool (l.contains x)) H := by
  refine Ret.isoX (f := c37) rfl rfl rfl hp (Eq.mpr (x37 _ _ _ _ _) ?_)
  have hn : AV.noIdsL [a, I x] = true := by simp [AV.noIdsL, AV.noIds, ha.noIds, ints_noIds]
  rw [callP_eq (r68 ha hl x (PubL.plain hn))]
  simp only [geqI, getP_some, pub_bool]
  rw [idxFrom_nonneg, any_eq_contains]
theorem r21 {a : AV} {l : List Str} (ha : SLike a (strs l)) (hl : ShortL l) (x : Str) {args : List AV} {H : Heap} (hp : PubL H args [a, .str x]) : Ret env 21 args H (.bool (l.contains x)) H := by
  refine Ret.isoX (f := c21) rfl rfl rfl hp (Eq.mpr (x21 _ _ _ _ _) ?_)
  have hn : AV.noIdsL [a, .str x] = true := by simp [AV.noIdsL, AV.noIds, ha.noIds, strs_noIds]
  rw [callP_eq (r50 ha hl x (PubL.plain hn))]
  simp only [geqI, getP_some, pub_bool]
  rw [idxFrom_nonneg, any_eq_contains]
theorem k21 {a : AV} {l : List Str} (ha : SLike a (strs l)) (hl : ShortL l) (x : Str) (H : Heap) (K) : callP env 21 [a, .str x] H K = K (.bool (l.contains x)) H :=
  callP_eq (r21 ha hl x (PubL.plain (by simp [AV.noIdsL, AV.noIds, ha.noIds, strs_noIds]))) K

/-! ### Tables of types -/
def ostr : Option (List Str) → AV
  | none => .nils
  | some l => .data (strs l)
theorem ostr_like : ∀ o, SLike (ostr o) (strs (o.getD []))
  | none => .nils
  | some l => .data _
theorem ostr_noIds : ∀ o, AV.noIds (ostr o) = true
  | none => rfl
  | some l => by simp [ostr, AV.noIds, strs_noIds]
structure TDef where
  kind : Int
  name : Str
  impl : Option (List Str)
  fields : AV
  mem : Option (List Str)
  inputs : AV
  pos : Int
def TDef.av (d : TDef) : AV := .agg [I d.kind, .str d.name, ostr d.impl, d.fields, ostr d.mem, d.inputs, I d.pos]
/-- Its parts are plain, and no longer than can be. -/
structure TDef.ok (d : TDef) : Prop where
  f : AV.noIds d.fields = true
  i : AV.noIds d.inputs = true
  impl : ShortL (d.impl.getD [])
  mem : ShortL (d.mem.getD [])
  name : Short d.name
def zeroDef : TDef := ⟨0, [], none, .nils, none, .nils, 0⟩
theorem zeroDef_ok : zeroDef.ok := ⟨rfl, rfl, by simp [zeroDef], by simp [zeroDef], by simp [zeroDef]⟩
theorem zeroDef_av : zeroDef.av = .agg [I 0, .str [], .nils, .nils, .nils, .nils, I 0] := rfl
abbrev Tab := List (Str × TDef)
def Tab.keys (t : Tab) : List AV := t.map fun p => .str p.1
def Tab.vals (t : Tab) : List AV := t.map fun p => p.2.av
def Tab.ok (t : Tab) : Prop := ∀ p ∈ t, p.2.ok
theorem TDef.noIds {d : TDef} (h : d.ok) : AV.noIds d.av = true := by simp [TDef.av, AV.noIds, AV.noIdsL, ostr_noIds, h.f, h.i]
theorem Tab.keys_noIds : ∀ t : Tab, AV.noIdsL t.keys = true
  | [] => rfl
  | p :: r => by have := Tab.keys_noIds r; simp only [Tab.keys] at this ⊢; simp [AV.noIdsL, AV.noIds, this]
theorem Tab.vals_noIds : ∀ t : Tab, t.ok → AV.noIdsL t.vals = true
  | [], _ => rfl
  | p :: r, h => by
    have := Tab.vals_noIds r fun q hq => h q (by simp [hq])
    simp only [Tab.vals] at this ⊢
    simp [AV.noIdsL, TDef.noIds (h p (by simp)), this]
def Tab.look (t : Tab) (n : Str) : Option TDef := (t.find? fun p => p.1 == n).map (·.2)
def Tab.get (t : Tab) (n : Str) : TDef := (t.look n).getD zeroDef
theorem Tab.get_ok {t : Tab} (h : t.ok) (n : Str) : (t.get n).ok := by
  unfold Tab.get Tab.look
  cases e : t.find? fun p => p.1 == n with
  | none => exact zeroDef_ok
  | some p => exact h p (List.mem_of_find?_eq_some e)
theorem findK_str (n : Str) : ∀ (t : Tab) (i : Nat), findK (.str n) t.keys i = some ((t.findIdx? fun p => p.1 == n).map (· + i))
  | [], i => rfl
  | p :: r, i => by
    have := findK_str n r (i + 1)
    simp only [Tab.keys] at this
    simp only [Tab.keys, List.map_cons, findK, AV.keyEq, List.findIdx?_cons]
    by_cases h : n = p.1
    · subst h; simp
    · have h1 : (n == p.1) = false := by simpa using h
      have h2 : (p.1 == n) = false := by simpa using fun e => h e.symm
      rw [h1, h2]
      simp only [this, Bool.false_eq_true, if_false, Option.map_map]
      congr 2
      funext j; simp; omega
theorem look_idx (n : Str) : ∀ (t : Tab), match t.findIdx? (fun p => p.1 == n) with
    | some i => ∃ d, t.look n = some d ∧ t.vals[i]? = some d.av
    | none => t.look n = none
  | [] => rfl
  | p :: r => by
    have := look_idx n r
    rw [List.findIdx?_cons]
    by_cases h : (p.1 == n) = true
    · simp only [h, if_true]
      exact ⟨p.2, by simp [Tab.look, h], by simp [Tab.vals]⟩
    · simp only [h, Bool.false_eq_true, if_false]
      have e : Tab.look (p :: r) n = Tab.look r n := by simp [Tab.look, List.find?_cons, h]
      rw [e]
      cases hi : r.findIdx? fun p => p.1 == n with
      | none => rw [hi] at this; simpa using this
      | some i => rw [hi] at this; simpa [Tab.vals] using this
theorem lookup_f (t : Tab) (n : Str) (H : Heap) : lookupA .str (.agg [I 0, .str [], .nils, .nils, .nils, .nils, I 0]) (.dmap t.keys t.vals) (.str n) false H = some (t.get n).av := by
  have := look_idx n t
  simp only [lookupA, AV.isKey, decide_true, if_true, mapOf, Option.bind_some, findK_str, Option.map_some, Nat.add_zero]
  cases hi : t.findIdx? fun p => p.1 == n with
  | none => rw [hi] at this; simp [Tab.get, this, zeroDef_av]
  | some i => rw [hi] at this; obtain ⟨d, h1, h2⟩ := this; simp [Tab.get, h1, h2, List.getD_eq_getElem?_getD]
theorem lookup_t (t : Tab) (n : Str) (H : Heap) : lookupA .str (.agg [I 0, .str [], .nils, .nils, .nils, .nils, I 0]) (.dmap t.keys t.vals) (.str n) true H = some (.tup [(t.get n).av, .bool (t.look n).isSome]) := by
  have := look_idx n t
  simp only [lookupA, AV.isKey, decide_true, if_true, mapOf, Option.bind_some, findK_str, Option.map_some, Nat.add_zero]
  cases hi : t.findIdx? fun p => p.1 == n with
  | none => rw [hi] at this; simp [Tab.get, this, zeroDef_av]
  | some i => rw [hi] at this; obtain ⟨d, h1, h2⟩ := this; simp [Tab.get, h1, h2, List.getD_eq_getElem?_getD]
/-- What New gives, made plain. -/
def TT (t : Tab) (o : Option (List Str)) : AV := .dptr [.dmap t.keys t.vals, ostr o]
theorem TT_noIds {t : Tab} (h : t.ok) (o) : AV.noIds (TT t o) = true := by simp [TT, AV.noIds, AV.noIdsL, Tab.keys_noIds, Tab.vals_noIds t h, ostr_noIds]
theorem TT_nil (t : Tab) (o) : nilA (TT t o) = some (TT t o) := rfl
theorem TT_f0 (t : Tab) (o) : faddrA 0 (TT t o) = some (TT t o) := rfl
theorem TT_l0 (t : Tab) (o) (H : Heap) : loadA none (TT t o) H = some (.dmap t.keys t.vals) := rfl
theorem TT_f1 (t : Tab) (o) : faddrA 1 (TT t o) = some (.dptr [ostr o]) := rfl
def Tab.kind (t : Tab) (n : Str) : Int := (t.get n).kind
theorem r8 {t : Tab} (ht : t.ok) (o) (n : Str) (H : Heap) : Ret env 8 [TT t o, .str n] H (I (t.kind n)) H := by
  refine Ret.isoX (f := c8) rfl rfl rfl (PubL.plain (by simp [AV.noIdsL, AV.noIds, TT_noIds ht])) (Eq.mpr (x8 _ _ _ _ _) ?_)
  simp only [TT_nil, TT_f0, TT_l0, getP_some, lookup_f, TDef.av, fieldA, mkv, List.drop_zero, List.head?_cons, pub_int]
  rfl
theorem k8 {t : Tab} (ht : t.ok) (o) (n : Str) (H : Heap) (K) : callP env 8 [TT t o, .str n] H K = K (I (t.kind n)) H := callP_eq (r8 ht o n H) K
def Tab.is (t : Tab) (n : Str) (l : List Int) : Bool := t.kind n != 0 && l.contains (t.kind n)
theorem r19 {t : Tab} (ht : t.ok) (o) (n : Str) {l : List Int} (hl : ShortL l) {a : AV} (ha : SLike a (ints l)) {args : List AV} {H : Heap} (hp : PubL H args [TT t o, .str n, a]) : Ret env 19 args H (.bool (t.is n l)) H := by
  refine Ret.isoX (f := c19) rfl rfl rfl hp (Eq.mpr (x19 _ _ _ _ _ _) ?_)
  simp only [k8 ht, neqI, getP_some, splitB_iff]
  refine ⟨fun h => ?_, fun h => ?_⟩
  · rw [callP_eq (r37 ha hl _ (PubL.plain (by simp [AV.noIdsL, AV.noIds, ha.noIds, ints_noIds])))]
    simp only [pub_bool, Tab.is, h, Bool.true_and]
  · simp only [pub_bool, Tab.is, h, Bool.false_and]
theorem fill_ints : ∀ (l : List Int), True := fun _ => trivial
theorem k19 {t : Tab} (ht : t.ok) (o) (n : Str) {l : List Int} {m : Nat} (hm : m = l.length) (hl : ShortL l) (H : Heap) (K) :
    callP env 19 [TT t o, .str n, .sl H.length 0 m none] (H ++ [.arr 1 0 0 (ints l)]) K = K (.bool (t.is n l)) (H ++ [.arr 1 0 0 (ints l)]) := by
  subst hm
  refine callP_eq (r19 ht o n hl (.data _) (PubLF.cons (Pub.plain (TT_noIds ht o)) (PubLF.cons (.scalar rfl) (PubLF.cons ?_ .nil)))) K
  have := Pub.row (fr := false) (H := H ++ [.arr 1 0 0 (ints l)]) (b := H.length) (tag := 0) (fz := 0) (cs := ints l) (by simp) (ints_scalar l)
  simpa using this
def Tab.comp (t : Tab) (n : Str) : Bool := t.is n [2, 3, 4]
end Go.AM.T

/- Contracts: names; a type that fits another. -/
namespace Go.AM.T
set_option linter.unusedVariables false
set_option linter.unusedSimpArgs false
set_option maxRecDepth 100000

/-! ### Names -/
def letterB (c : Int) : Bool := (decide (97 ≤ c) && decide (c ≤ 122)) || ((decide (65 ≤ c) && decide (c ≤ 90)) || c == 95)
def digitB (c : Int) : Bool := decide (48 ≤ c) && decide (c ≤ 57)
theorem r33 (c : Int) (H : Heap) : Ret env 33 [.int .u8 c] H (.bool (letterB c)) H := by
  refine Ret.isoX (f := c33) rfl rfl rfl (PubL.plain rfl) (Eq.mpr (x33 _ _ _ _) ?_)
  simp only [geqI, leqI, eqlI, getP_some, splitB_iff, pub_bool, AV.bool.injEq]
  refine ⟨fun h1 => ⟨fun h2 => ?_, fun h2 => ⟨fun h3 => ⟨fun h4 => ?_, fun h4 => ?_⟩, fun h3 => ?_⟩⟩, fun h1 => ⟨fun h3 => ⟨fun h4 => ?_, fun h4 => ?_⟩, fun h3 => ?_⟩⟩ <;> (rw [Bool.eq_iff_iff]; simp [letterB] at *; omega)
theorem k33 (c : Int) (H : Heap) (K) : callP env 33 [.int .u8 c] H K = K (.bool (letterB c)) H := callP_eq (r33 c H) K
theorem r34 (c : Int) (H : Heap) : Ret env 34 [.int .u8 c] H (.bool (digitB c)) H := by
  refine Ret.isoX (f := c34) rfl rfl rfl (PubL.plain rfl) (Eq.mpr (x34 _ _ _ _) ?_)
  simp only [geqI, leqI, eqlI, getP_some, splitB_iff, pub_bool, AV.bool.injEq]
  refine ⟨fun h1 => ?_, fun h1 => ?_⟩ <;> (rw [Bool.eq_iff_iff]; simp [digitB] at *; omega)
theorem k34 (c : Int) (H : Heap) (K) : callP env 34 [.int .u8 c] H K = K (.bool (digitB c)) H := callP_eq (r34 c H) K
def nameRest (s : Str) : Bool := s.all fun c => letterB c.toNat || digitB c.toNat
def nameB (s : Str) : Bool := match s with
  | [] => false
  | c :: _ => letterB c.toNat && nameRest s
theorem nameRest_cons (c : UInt8) (r : Str) : nameRest (c :: r) = ((letterB c.toNat || digitB c.toNat) && nameRest r) := by simp [nameRest]
theorem index_str {s : Str} {i : Nat} {c : UInt8} {k : IntKind} (h : s[i]? = some c) : indexA 0 none (.str s) (.int k ↑i) = some (.int .u8 c.toNat) := by
  simp [indexA, evNat, h]
/-! ### A type that fits another -/
theorem is_1 {t : Tab} (ht : t.ok) (o) (n : Str) (k : Int) (H : Heap) (K : AV → AV → Heap → Prop) :
    sliceP none 0 1 [I 0] [(0, 1, I k)] H (fun v h => callP env 19 [TT t o, .str n, v] h (K v)) = K (.sl H.length 0 1 none) (.bool (t.is n [k])) (H ++ [.arr 1 0 0 (ints [k])]) := by
  have := k19 ht o n (l := [k]) (m := 1) rfl (by simp) H (K (.sl H.length 0 1 none))
  refine propext ⟨?_, fun h => ⟨[I k], rfl, ?_⟩⟩
  · rintro ⟨cs, h1, h2⟩
    cases h1
    exact this.mp h2
  · exact this.mpr h
theorem is_2 {t : Tab} (ht : t.ok) (o) (n : Str) (k j : Int) (H : Heap) (K : AV → AV → Heap → Prop) :
    sliceP none 0 2 [I 0] [(0, 1, I k), (1, 1, I j)] H (fun v h => callP env 19 [TT t o, .str n, v] h (K v)) = K (.sl H.length 0 2 none) (.bool (t.is n [k, j])) (H ++ [.arr 1 0 0 (ints [k, j])]) := by
  have := k19 ht o n (l := [k, j]) (m := 2) rfl (by simp) H (K (.sl H.length 0 2 none))
  refine propext ⟨?_, fun h => ⟨[I k, I j], rfl, ?_⟩⟩
  · rintro ⟨cs, h1, h2⟩
    cases h1
    exact this.mp h2
  · exact this.mpr h
theorem suf_lt {s t : Str} (h : sufB s t = true) (ht : 0 < t.length) : (trimS s t).length < s.length := by
  have : t.length ≤ s.length := by simp [sufB] at h; exact h.1
  simp only [trimS, h, if_true, List.length_take]; omega
theorem pre_lt {s t : Str} (h : preB s t = true) (ht : 0 < t.length) : (cutP s t).length < s.length := by
  have : t.length ≤ s.length := by simp [preB] at h; exact h.1
  simp only [cutP, h, if_true, List.length_drop]; omega
theorem item_lt {s : Str} (h : isList s = true) : (itemS s).length < s.length := by
  simp only [itemS, h, if_true]
  exact Nat.lt_of_le_of_lt (trim_le _ _) (Nat.lt_of_lt_of_le (pre_lt h (by simp)) (trim_le _ _))
def Tab.fits (t : Tab) (a b : Str) : Bool :=
  if h : nonNullB a = true then t.fits (nullableS a) (nullableS b)
  else if nonNullB b then false
  else if h : isList a = true then (if isList b then t.fits (itemS a) (itemS b) else false)
  else if isList b then false
  else if a == b then true
  else if t.is b [3] then t.is a [2, 3] && ((t.get a).impl.getD []).contains b
  else t.is b [4] && (t.is a [2] && ((t.get b).mem.getD []).contains a)
termination_by a.length
decreasing_by
  · exact suf_lt h (by simp)
  · exact item_lt h
theorem field_impl (d : TDef) : fieldA 2 none d.av = some (ostr d.impl) := rfl
theorem field_mem (d : TDef) : fieldA 4 none d.av = some (ostr d.mem) := rfl
theorem field_kind (d : TDef) : fieldA 0 none d.av = some (I d.kind) := rfl
theorem r10 {t : Tab} (ht : t.ok) (o) : ∀ (n : Nat) (a b : Str), a.length = n → Short a → Short b → ∀ H, Ret env 10 [TT t o, .str a, .str b] H (.bool (t.fits a b)) H := by
  intro n
  induction n using Nat.strongRecOn with
  | ind n ih =>
  intro a b hn ha hb H
  subst hn
  refine Ret.isoX (f := c10) rfl rfl rfl (PubL.plain (by simp [AV.noIdsL, AV.noIds, TT_noIds ht])) (Eq.mpr (x10 _ _ _ _ _ _) ?_)
  rw [Tab.fits]
  simp only [k23 _ ha, k23 _ hb, splitB_iff]
  refine ⟨fun h => ?_, fun h => ⟨fun h2 => ?_, fun h2 => ?_⟩⟩
  · simp only [k24 _ ha, k24 _ hb]
    rw [callP_eq (ih _ (suf_lt h (by simp)) _ _ rfl (Nat.lt_of_le_of_lt (trim_le a _) ha) (Nat.lt_of_le_of_lt (trim_le b _) hb) _), pub_bool]
    simp only [h, dite_true]
  · rw [pub_bool]; simp only [h, h2, Bool.false_eq_true, dite_false, if_true]
  · simp only [k25 _ ha, k25 _ hb, extA, List.getElem?_cons_zero, List.getElem?_cons_succ, getP_some, h, h2, dite_false, Bool.false_eq_true, if_false]
    by_cases l1 : isList a = true
    · by_cases l2 : isList b = true
      · simp only [l1, l2, splitB_t, dite_true, if_true]
        rw [callP_eq (ih _ (item_lt l1) _ _ rfl (Nat.lt_trans (item_lt l1) ha) (Nat.lt_trans (item_lt l2) hb) _), pub_bool]
      · have l2 : isList b = false := by simpa using l2
        simp only [l1, l2, splitB_t, splitB_f, dite_true, if_false, pub_bool, Bool.false_eq_true]
    · have l1 : isList a = false := by simpa using l1
      by_cases l2 : isList b = true
      · simp only [l1, l2, splitB_t, splitB_f, dite_false, if_true, pub_bool, Bool.false_eq_true]
      · have l2 : isList b = false := by simpa using l2
        simp only [l1, l2, splitB_t, splitB_f, dite_false, if_false, Bool.false_eq_true, eqlS, getP_some]
        by_cases e : (a == b) = true
        · simp only [e, splitB_t, if_true, pub_bool]
        · have e : (a == b) = false := by simpa using e
          simp only [e, splitB_f, if_false, Bool.false_eq_true, is_1 ht, is_2 ht, TT_nil, TT_f0, TT_l0, lookup_f, getP_some, field_impl, field_mem, k21 (ostr_like _) (Tab.get_ok ht _).impl, k21 (ostr_like _) (Tab.get_ok ht _).mem, pub_bool, splitB_iff]
          cases t.is b [3] <;> cases t.is a [2, 3] <;> cases t.is b [4] <;> cases t.is a [2] <;> simp
theorem k10 {t : Tab} (ht : t.ok) (o) (a b : Str) (ha : Short a) (hb : Short b) (H : Heap) (K) : callP env 10 [TT t o, .str a, .str b] H K = K (.bool (t.fits a b)) H := callP_eq (r10 ht o _ a b rfl ha hb H) K
end Go.AM.T

/- Contracts: lists that are made, put in order, made short. -/
namespace Go.AM.T
set_option linter.unusedVariables false
set_option linter.unusedSimpArgs false
set_option maxRecDepth 100000

/-! ### What a list of one's own holds -/
def OutL (v : AV) (H : Heap) (l : List Str) : Prop := (v = .nils ∧ l = []) ∨ ∃ b, v = .sl b 0 l.length none ∧ H[b]? = some (.arr 1 0 0 (strs l)) ∧ 0 < l.length
theorem OutL.nil (H : Heap) : OutL .nils H [] := .inl ⟨rfl, rfl⟩
theorem getElem?_grow {α : Type} {H : List α} {b : Nat} {x : α} (h : H[b]? = some x) (X : List α) : (H ++ X)[b]? = some x := by
  obtain ⟨hb, rfl⟩ := List.getElem?_eq_some_iff.1 h
  rw [List.getElem?_append_left hb]; simp [hb]
theorem OutL.grow {v : AV} {H : Heap} {l : List Str} (h : OutL v H l) (X : Heap) : OutL v (H ++ X) l := by
  rcases h with h | ⟨b, h1, h2, h3⟩
  · exact .inl h
  · exact .inr ⟨b, h1, getElem?_grow h2 X, h3⟩
theorem appA_nil (H : Heap) (s : Str) : appA none 0 16 .nils (.sl H.length 0 1 none) (H ++ [Blk.arr 1 0 0 [.str s]]) = some (.sl (H.length + 1) 0 1 none, H ++ [Blk.arr 1 0 0 [.str s]] ++ [Blk.arr 1 0 0 [.str s]]) := by
  simp [appA, elemsOf, szOf, appendA]
theorem appA_sl {H : Heap} {b : Nat} {l : List Str} (hb : H[b]? = some (.arr 1 0 0 (strs l))) (hl : l.length ≤ 8796093022000) (s : Str) :
    appA none 0 16 (.sl b 0 l.length none) (.sl H.length 0 1 none) (H ++ [Blk.arr 1 0 0 [.str s]]) = some (.sl (H.length + 1) 0 (l ++ [s]).length none, (H ++ [Blk.arr 1 0 0 [.str s]]).set b .dead ++ [Blk.arr 1 0 0 (strs (l ++ [s]))]) := by
  have h1 : (l.length + 1) * 16 ≤ 140737488355328 := by omega
  have h2 : l.length + 1 < 9223372036854775808 := by omega
  have e : List.take l.length (strs l) = strs l := by rw [show l.length = (strs l).length by simp, List.take_length]
  simp [appA, elemsOf, szOf, appendA, getElem?_grow hb, h1, h2, e]
theorem sl1 (s : Str) (H : Heap) (K) : sliceP none 0 1 [AV.str []] [(0, 1, AV.str s)] H K = K (.sl H.length 0 1 none) (H ++ [Blk.arr 1 0 0 [.str s]]) := by
  refine propext ⟨?_, fun h => ⟨[.str s], rfl, h⟩⟩
  rintro ⟨cs, h1, h2⟩
  cases h1
  exact h2
theorem app1 {v : AV} {H : Heap} {l : List Str} (h : OutL v H l) (s : Str) (hl : l.length ≤ 8796093022000) :
    ∃ v' H', OutL v' H' (l ++ [s]) ∧ (∀ b x, H[b]? = some x → v ≠ .sl b 0 l.length none → H'[b]? = some x) ∧ H.length + 1 ≤ H'.length ∧ (∀ b, v' = .sl b 0 (l ++ [s]).length none → H.length ≤ b) ∧
      ∀ K : AV → Heap → AV → Heap → Prop, sliceP none 0 1 [AV.str []] [(0, 1, AV.str s)] H (fun v1 h1 => get2 (appA none 0 16 v v1 h1) (K v1 h1)) = K (.sl H.length 0 1 none) (H ++ [Blk.arr 1 0 0 [.str s]]) v' H' := by
  rcases h with ⟨rfl, rfl⟩ | ⟨b, rfl, hb, hp⟩
  · refine ⟨.sl (H.length + 1) 0 1 none, H ++ [Blk.arr 1 0 0 [.str s]] ++ [Blk.arr 1 0 0 [.str s]], ?_, ?_, by simp, ?_, ?_⟩
    · exact .inr ⟨H.length + 1, rfl, by simp, by simp⟩
    · intro b x hx _; exact getElem?_grow (getElem?_grow hx _) _
    · intro b hb; injection hb with e; omega
    · intro K; rw [sl1, appA_nil, get2_some]
  · have hlt : b < H.length := (List.getElem?_eq_some_iff.1 hb).1
    refine ⟨.sl (H.length + 1) 0 (l ++ [s]).length none, (H ++ [Blk.arr 1 0 0 [.str s]]).set b .dead ++ [Blk.arr 1 0 0 (strs (l ++ [s]))], ?_, ?_, by simp, ?_, ?_⟩
    · exact .inr ⟨H.length + 1, rfl, by rw [List.getElem?_append_right (by simp)]; simp, by simp⟩
    · intro c x hx hne
      have hc := (List.getElem?_eq_some_iff.1 hx).1
      have : b ≠ c := fun e => hne (by rw [e])
      refine getElem?_grow ?_ _
      rw [List.getElem?_set_ne this]
      exact getElem?_grow hx _
    · intro b hb; injection hb with e; omega
    · intro K; rw [sl1, appA_sl hb hl, get2_some]
/-! ### Regions whose order is open, where nothing is turned -/
theorem trOk_quiet {ops : List RO} {tr : List Tr} (h : ∀ t ∈ tr, t.after = t.before) : trOk ops tr = true := by
  have hp : ∀ p, pairOk tr p = true := by
    intro p
    unfold pairOk
    split
    · rename_i ti tl h1 h2
      have := h tl (List.mem_of_getElem? h2)
      split
      · rfl
      · simp [this]
    · rfl
  simp only [trOk, Bool.and_eq_true, List.all_eq_true, decide_eq_true_eq]
  exact ⟨fun t ht => by rw [h t ht]; exact Nat.le_refl _, fun p _ => hp p⟩
end Go.AM.T

/- Contracts: sorting, striking what stands twice. -/
namespace Go.AM.T
set_option linter.unusedVariables false
set_option linter.unusedSimpArgs false
set_option maxRecDepth 100000

theorem strsOf_strs : ∀ l : List Str, strsOf (strs l) = some l
  | [] => rfl
  | x :: r => by have := strsOf_strs r; simp only [strs] at this; simp [strsOf, this]
theorem insS_length (x : Str) : ∀ l, (insS x l).length = l.length + 1
  | [] => rfl
  | y :: r => by unfold insS; split <;> simp [insS_length x r]
theorem isort_length : ∀ l, (isort l).length = l.length
  | [] => rfl
  | x :: r => by simp [isort, insS_length, isort_length r]
theorem r28n (H : Heap) : Ret env 28 [.nils] H (.tup []) H := ⟨1, fun k hk => by
  obtain ⟨i, rfl⟩ : ∃ i, k = i + 1 := ⟨k - 1, by omega⟩
  rfl⟩
theorem r28 {H : Heap} {b : Nat} {l : List Str} (hb : H[b]? = some (.arr 1 0 0 (strs l))) (h0 : 0 < l.length) (hl : ShortL l) :
    Ret env 28 [.sl b 0 l.length none] H (.tup []) (H.set b (.arr 1 0 0 (strs (isort l)))) := ⟨1, fun k hk => by
  obtain ⟨i, rfl⟩ : ∃ i, k = i + 1 := ⟨k - 1, by omega⟩
  have e : List.take l.length (strs l) = strs l := by rw [show l.length = (strs l).length by simp, List.take_length]
  have w : wr (strs l) 0 (strs (isort l)) = strs (isort l) := by simp [wr, isort_length]
  show sortP [.sl b 0 l.length none] H = _
  simp only [sortP, hb]
  rw [if_pos ⟨by omega, h0, hl, by simp⟩]
  simp only [List.drop_zero, e, strsOf_strs, Option.map_some]
  rw [← w]⟩

def compL : List Str → List Str
  | [] => []
  | [x] => [x]
  | x :: y :: r => if x == y then compL (y :: r) else x :: compL (y :: r)
theorem compL_head : ∀ (x : Str) (r : List Str), ∃ t, compL (x :: r) = x :: t ∧ (∀ y r', r = y :: r' → (x == y) = true → compL r = x :: t) ∧ (∀ y r', r = y :: r' → (x == y) = false → t = compL r)
  | x, [] => ⟨[], rfl, (by intro _ _ h; cases h), (by intro _ _ h; cases h)⟩
  | x, y :: r => by
    obtain ⟨t, h1, _⟩ := compL_head y r
    cases e : x == y
    · refine ⟨compL (y :: r), by simp [compL, e], ?_, ?_⟩
      · intro y' r' h; injection h with h h'; subst h; simp [e]
      · intro y' r' h _; rfl
    · have : x = y := by simpa using e
      subst this
      refine ⟨t, by simp [compL, h1], ?_, ?_⟩
      · intro y' r' h _; exact h1
      · intro y' r' h h2; injection h with h h'; subst h; simp at h2
theorem compL_small {l : List Str} (h : l.length < 2) : compL l = l := by
  match l, h with
  | [], _ => rfl
  | [x], _ => rfl
theorem set_same {H : Heap} {b : Nat} {x : Blk} (h : H[b]? = some x) : H.set b x = H := by
  obtain ⟨hb, rfl⟩ := List.getElem?_eq_some_iff.1 h
  exact List.set_getElem_self hb
theorem r29 {H : Heap} {b : Nat} {l : List Str} (hb : H[b]? = some (.arr 1 0 0 (strs l))) (hl : ShortL l) :
    ∃ v H', (∃ cs', v = .sl b 0 (compL l).length none ∧ H' = H.set b (.arr 1 0 0 cs') ∧ cs'.length = l.length ∧ cs'.take (compL l).length = strs (compL l)) ∧ Ret env 29 [.sl b 0 l.length none] H v H' := by
  have hbl : b < H.length := (List.getElem?_eq_some_iff.1 hb).1
  have whole : compL l = l → ∃ cs', AV.sl b 0 l.length none = .sl b 0 (compL l).length none ∧ H = H.set b (.arr 1 0 0 cs') ∧ cs'.length = l.length ∧ cs'.take (compL l).length = strs (compL l) := by
    intro e
    refine ⟨strs l, by rw [e], (set_same hb).symm, by simp, ?_⟩
    rw [e, show l.length = (strs l).length by simp, List.take_length]
  refine Ret.openQ (f := c29) rfl rfl rfl (Eq.mpr (x29 _ _ _ _) ?_)
  simp only [len_sl, getP_some, lssI, splitB_iff, decide_eq_true_eq, decide_eq_false_iff_not]
  refine ⟨fun h => whole (compL_small (by omega)), fun h => ?_⟩
  have hlen : 2 ≤ l.length := by omega
  have getl : ∀ {i : Nat} (hi : i < l.length), (strs l)[i]? = some (.str l[i]) := fun hi => by simp [hi]
  refine ⟨fun n f H' => ∃ k : Nat, k + n = l.length ∧ 1 ≤ k ∧ f 3 = I ↑k ∧ H = H' ∧ compL l = l.take (k - 1) ++ compL (l.drop (k - 1)), ⟨l.length - 1, 1, by omega, by omega, rfl, rfl, rfl⟩, ?_⟩
  rintro n f H' ⟨k, hk, h1, h3, rfl, hc⟩
  simp only [h3, lssI, getP_some, splitB_iff, decide_eq_true_eq, decide_eq_false_iff_not]
  refine ⟨fun hlt => ?_, fun hlt => ?_⟩
  · have hlt : k < l.length := by omega
    have hlt1 : k - 1 < l.length := by omega
    refine ⟨by kernel_rfl, ?_⟩
    simp only [iaddr_sl hlt, getP_some, Nat.zero_add, load_arr hb (getl hlt), sub1 h1 (by omega), iaddr_sl hlt1, load_arr hb (getl hlt1), eqlS, splitB_iff]
    refine ⟨trOk_quiet (by simp), ?_⟩
    have dr : l.drop (k - 1) = l[k - 1] :: l[k] :: l.drop (k + 1) := by
      rw [List.drop_eq_getElem_cons hlt1]
      have : k - 1 + 1 = k := by omega
      simp only [this]
      rw [List.drop_eq_getElem_cons hlt]
    have tk : l.take (k - 1) ++ [l[k - 1]] = l.take k := by
      have : k = k - 1 + 1 := by omega
      conv => rhs; rw [this]
      rw [List.take_succ, List.getElem?_eq_getElem hlt1]; rfl
    obtain ⟨t, ht1, ht2, ht3⟩ := compL_head l[k - 1] (l[k] :: l.drop (k + 1))
    refine ⟨fun e => ?_, fun e => ?_⟩
    · have e' : l[k] = l[k - 1] := by simpa using e
      have e2 : (l[k - 1] == l[k]) = true := by simp [e']
      simp only [sub_lo (show k ≤ l.length by omega), getP_some]
      -- the inner loop
      refine ⟨fun n2 f2 H' => ∃ (j kk : Nat) (cs X tl : _), j + n2 = l.length - k ∧ 1 ≤ j ∧ f2 5 = I ↑j ∧ f2 3 = I ↑kk ∧ H' = H.set b (.arr 1 0 0 cs) ∧ cs.length = l.length ∧ kk ≤ k + j - 1 ∧ X.length = kk ∧ cs.take kk = strs X ∧ cs.drop (k + j - 1) = (strs l).drop (k + j - 1) ∧ compL l = X ++ tl ∧ ∃ y r, l.drop (k + j - 1) = y :: r ∧ compL (y :: r) = y :: tl,
        ⟨l.length - k - 1, 1, k, strs l, l.take k, t, by omega, by omega, rfl, h3 ▸ rfl, (set_same hb).symm, by simp, by omega, by simp; omega, by simp [List.map_take], rfl, ?_, ?_⟩, ?_⟩
      · rw [hc, dr, ht1, ← tk]; simp only [List.append_assoc, List.singleton_append]
      · have : k + 1 - 1 = k := by omega
        rw [this]
        refine ⟨l[k], l.drop (k + 1), List.drop_eq_getElem_cons hlt, ?_⟩
        rw [ht2 _ _ rfl e2, e']
      · rintro n2 f2 H' ⟨j, kk, cs, X, tl, hj, hj1, g5, g3, rfl, hcs, hkk, hX, htake, hdrop, hcl, y, r, hy, hyc⟩
        have hb' : (H.set b (.arr 1 0 0 cs))[b]? = some (.arr 1 0 0 cs) := by simp [hbl]
        simp only [g5, g3, lssI, len_sl, getP_some, splitB_iff, decide_eq_true_eq, decide_eq_false_iff_not]
        refine ⟨fun hlt2 => ?_, fun hlt2 => ?_⟩
        · have hlt2 : j < l.length - k := by omega
          have hq : k + j < l.length := by omega
          have hq1 : k + j - 1 < l.length := by omega
          have eq1 : k + (j - 1) = k + j - 1 := by omega
          have rd : ∀ i, k + j - 1 ≤ i → (hi : i < l.length) → cs[i]? = some (.str l[i]) := by
            intro i h1 h2
            have := congrArg (fun z => z[i - (k + j - 1)]?) hdrop
            simp only [List.getElem?_drop] at this
            rw [show k + j - 1 + (i - (k + j - 1)) = i by omega] at this
            rw [this, getl h2]
          refine ⟨by kernel_rfl, ?_⟩
          simp only [iaddr_sl hlt2, iaddr_sl (show j - 1 < l.length - k by omega), getP_some, Nat.zero_add, load_arr hb' (rd (k + j) (by omega) hq), sub1 hj1 (by omega), eq1, load_arr hb' (rd (k + j - 1) (by omega) hq1), neqS, splitB_iff, iaddr_sl (show kk < l.length by omega)]
          refine ⟨trOk_quiet (by simp), ?_⟩
          have dy : l.drop (k + j - 1) = l[k + j - 1] :: l[k + j] :: l.drop (k + j + 1) := by
            rw [List.drop_eq_getElem_cons hq1]
            have : k + j - 1 + 1 = k + j := by omega
            simp only [this]
            rw [List.drop_eq_getElem_cons hq]
          rw [dy] at hy
          injection hy with hy1 hy2
          obtain ⟨t', h1', h2', h3'⟩ := compL_head l[k + j - 1] (l[k + j] :: l.drop (k + j + 1))
          have et : t' = tl := by
            rw [← hy1, ← hy2, h1'] at hyc
            injection hyc
          have ej : k + (j + 1) - 1 = k + j := by omega
          refine ⟨fun en => ?_, fun en => ?_⟩
          · have en' : (l[k + j - 1] == l[k + j]) = false := by
              have : ¬ l[k + j] = l[k + j - 1] := by simpa using en
              simpa using fun z => this z.symm
            have hst := store_arr hb' (v := .str l[k + j]) (off := kk) (Nat.zero_le _) (by omega) rfl
            rw [hst, getH_some, add1 (by omega), getP_some, add1 (by omega), getP_some]
            obtain ⟨t2, q1, q2, q3⟩ := compL_head l[k + j] (l.drop (k + j + 1))
            refine ⟨n2 - 1, by omega, j + 1, kk + 1, cs.set kk (.str l[k + j]), X ++ [l[k + j]], t2, by omega, by omega, rfl, rfl, by rw [List.set_set], by simp [hcs], by omega, by simp [hX], ?_, ?_, ?_, l[k + j], l.drop (k + j + 1), ?_, q1⟩
            · rw [List.take_succ]
              have : (cs.set kk (.str l[k + j]))[kk]? = some (.str l[k + j]) := by rw [List.getElem?_set_self]; omega
              rw [this, List.take_set_of_le (Nat.le_refl _), htake]; simp
            · rw [List.drop_set_of_lt (by omega), ej]
              have := congrArg (List.drop 1) hdrop
              simpa [List.drop_drop, show k + j - 1 + 1 = k + j by omega] using this
            · rw [hcl, ← et, h3' _ _ rfl en', q1]; simp
            · rw [ej]; exact List.drop_eq_getElem_cons hq
          · have en' : l[k + j] = l[k + j - 1] := by simpa using en
            have en2 : (l[k + j - 1] == l[k + j]) = true := by simp [en']
            rw [add1 (by omega), getP_some]
            refine ⟨n2 - 1, by omega, j + 1, kk, cs, X, tl, by omega, by omega, rfl, g3 ▸ rfl, rfl, hcs, by omega, hX, htake, ?_, hcl, l[k + j], l.drop (k + j + 1), ?_, ?_⟩
            · rw [ej]
              have := congrArg (List.drop 1) hdrop
              simpa [List.drop_drop, show k + j - 1 + 1 = k + j by omega] using this
            · rw [ej]; exact List.drop_eq_getElem_cons hq
            · rw [h2' _ _ rfl en2, et, en']
        · have hjn : j = l.length - k := by omega
          have htl : tl = [] := by
            have : l.drop (k + j - 1) = [l[l.length - 1]] := by
              have : k + j - 1 = l.length - 1 := by omega
              rw [this, List.drop_eq_getElem_cons (by omega)]
              congr 1; simp; omega
            rw [this] at hy
            injection hy with hy1 hy2
            subst hy2
            simpa [compL] using hyc.symm
          subst htl
          simp only [List.append_nil] at hcl
          have hkl : kk ≤ l.length := by omega
          simp only [sub_lo hkl, sub_hi hkl, getP_some, Nat.zero_add]
          by_cases hz : l.length - kk = 0
          · have e0 : clearA [.str []] (.sl b kk (l.length - kk) none) (H.set b (.arr 1 0 0 cs)) = some (.tup [], H.set b (.arr 1 0 0 cs)) := by simp [clearA, hz]
            rw [e0, get2_some]
            exact ⟨cs, by rw [hcl, hX], rfl, hcs, by rw [hcl, hX, htake]⟩
          · have e0 : clearA [.str []] (.sl b kk (l.length - kk) none) (H.set b (.arr 1 0 0 cs)) = some (.tup [], (H.set b (.arr 1 0 0 cs)).set b (.arr 1 0 0 (wr cs kk (repC [.str []] (l.length - kk))))) := by
              have : kk + (l.length - kk) * 1 ≤ cs.length := by omega
              simp [clearA, hz, hb', szOf, this]
              omega
            rw [e0, get2_some]
            have rl : ∀ n, (repC [AV.str []] n).length = n := by
              intro n; induction n with
              | zero => rfl
              | succ n ih => simp [repC, ih]
            refine ⟨wr cs kk (repC [.str []] (l.length - kk)), by rw [hcl, hX], by rw [List.set_set], ?_, ?_⟩
            · simp [wr, rl]; omega
            · rw [hcl, hX, ← htake]
              simp only [wr, List.append_assoc]
              rw [List.take_append_of_le_length (by simp; omega)]
              rw [List.take_take, Nat.min_self]
    · have e' : (l[k - 1] == l[k]) = false := by
        have : ¬ l[k] = l[k - 1] := by simpa using e
        simpa using fun z => this z.symm
      rw [add1 (by omega), getP_some]
      refine ⟨n - 1, by omega, k + 1, by omega, by omega, rfl, by trivial, ?_⟩
      have : k + 1 - 1 = k := by omega
      rw [this, hc, dr, ht1, ht3 _ _ rfl e', ← tk, ← List.drop_eq_getElem_cons hlt]; simp only [List.append_assoc, List.singleton_append]
  · have hk' : k = l.length := by omega
    refine whole ?_
    rw [hc]
    have : l.drop (k - 1) = [l[k - 1]] := by
      rw [List.drop_eq_getElem_cons (by omega)]
      congr 1; simp; omega
    rw [this]
    show l.take (k - 1) ++ [l[k - 1]] = l
    rw [← this, List.take_append_drop]
end Go.AM.T

/- Contracts: possible types. -/
namespace Go.AM.T
set_option linter.unusedVariables false
set_option linter.unusedSimpArgs false
set_option maxRecDepth 100000

theorem r30n (H : Heap) : Ret env 30 [.nils] H .nils H := by
  refine Ret.openX (f := c30) rfl rfl rfl (Eq.mpr (x30 _ _ _ _) ?_)
  simp only [len_nils, getP_some]
  rw [show sliceA 1 .nils none (some (.int .i64 0)) (some (.int .i64 0)) = some .nils from rfl, getP_some]
  exact ⟨by trivial, by trivial⟩
theorem r30 (b n : Nat) (H : Heap) : Ret env 30 [.sl b 0 n none] H (.sl b 0 n none) H := by
  refine Ret.openX (f := c30) rfl rfl rfl (Eq.mpr (x30 _ _ _ _) ?_)
  simp only [len_sl, getP_some]
  have : sliceA 1 (.sl b 0 n none) none (some (.int .i64 ↑n)) (some (.int .i64 ↑n)) = some (.sl b 0 n none) := by simp [sliceA, evNat, szOf]
  rw [this, getP_some]
  exact ⟨by trivial, by trivial⟩
theorem r29n (H : Heap) : Ret env 29 [.nils] H .nils H := by
  refine Ret.openX (f := c29) rfl rfl rfl (Eq.mpr (x29 _ _ _ _) ?_)
  simp only [len_nils, getP_some, lssI]
  exact ⟨by trivial, by trivial⟩
/-- What is there of a list, in order, each once. -/
def possR (l : List Str) : Option (List Str) := if l = [] then none else some (compL (isort l))
theorem tail28 {fr : Bool} {v : AV} {H : Heap} {l : List Str} (h : OutL v H l) (hl : ShortL l) :
    callP env 28 [v] H fun _ h9 => callP env 29 [v] h9 fun v10 h11 => callP env 30 [v10] h11 fun v12 h13 => Pub fr h13 v12 (ostr (possR l)) := by
  rcases h with ⟨rfl, rfl⟩ | ⟨b, rfl, hb, h0⟩
  · rw [callP_eq (r28n H), callP_eq (r29n H), callP_eq (r30n H)]
    exact Pub.scalar rfl
  · rw [callP_eq (r28 hb h0 hl)]
    have hbl : b < H.length := (List.getElem?_eq_some_iff.1 hb).1
    have hb2 : (H.set b (.arr 1 0 0 (strs (isort l))))[b]? = some (.arr 1 0 0 (strs (isort l))) := by simp [hbl]
    obtain ⟨v, H', ⟨cs', rfl, rfl, h1, h2⟩, hr⟩ := r29 hb2 (by rw [ShortL, isort_length]; exact hl)
    rw [isort_length] at hr
    refine ⟨_, _, hr, _, _, r30 b _ _, ?_⟩
    have hne : l ≠ [] := by intro e; subst e; simp at h0
    simp only [possR, hne, if_false, ostr]
    have hle : (compL (isort l)).length ≤ cs'.length := by
      have := congrArg List.length h2
      simp at this; omega
    refine Pub.sl (sz := 1) (tag := 0) (fz := 0) (cs := cs') (cs' := strs (compL (isort l))) ?_ rfl (by omega) ?_ ?_
    · rw [List.set_set]; simp [hbl]
    · simp only [List.drop_zero, Nat.mul_one, h2]
      exact PubLF.scalars (strs_scalar _)
    · have := chunk_none (strs (compL (isort l)))
      simpa using this

/-- The types of a name, as the code gathers them. -/
def Tab.gather (t : Tab) (o : Option (List Str)) (n : Str) : List Str :=
  if t.kind n = 2 then [n]
  else if t.kind n = 3 then (o.getD []).filter fun s => t.is s [2] && ((t.get s).impl.getD []).contains n
  else if t.kind n = 4 then ((t.get n).mem.getD []).filter fun s => t.is s [2]
  else []
def Tab.poss (t : Tab) (o : Option (List Str)) (n : Str) : Option (List Str) := possR (t.gather o n)
theorem filter_take {α : Type} (p : α → Bool) {l : List α} {i : Nat} {x : α} (h : l[i]? = some x) : (l.take (i + 1)).filter p = (l.take i).filter p ++ (if p x then [x] else []) := by
  rw [List.take_succ, h, List.filter_append]
  cases hp : p x <;> simp [hp]
theorem filter_len {α : Type} (p : α → Bool) (l : List α) (i : Nat) : ((l.take i).filter p).length ≤ l.length :=
  Nat.le_trans (List.length_filter_le _ _) (by simp; omega)
theorem r7 {t : Tab} (ht : t.ok) (o : Option (List Str)) (ho : (o.getD []).length ≤ 8796093022000) (n : Str) (hm : ((t.get n).mem.getD []).length ≤ 8796093022000) (H : Heap) : Ret env 7 [TT t o, .str n] H (ostr (t.poss o n)) H := by
  have hn : AV.noIdsL [TT t o, .str n] = true := by simp [AV.noIdsL, AV.noIds, TT_noIds ht]
  refine Ret.isoX (f := c7) rfl rfl rfl (PubL.plain hn) (Eq.mpr (x7 _ _ _ _ _) ?_)
  simp only [k8 ht, eqlI, getP_some, splitB_iff]
  refine ⟨fun e2 => ?_, fun e2 => ⟨fun e3 => ?_, fun e3 => ⟨fun e4 => ?_, fun e4 => ?_⟩⟩⟩
  · have e2 : t.kind n = 2 := by simpa using e2
    obtain ⟨v', H', ho', _, _, _, hk⟩ := app1 (OutL.nil []) n (by simp)
    rw [hk fun _ _ => _]
    have hg : t.poss o n = possR [n] := by simp [Tab.poss, Tab.gather, e2]
    rw [hg]
    exact tail28 ho' (by simp)
  · have e2 : t.kind n ≠ 2 := by simpa using e2
    have e3 : t.kind n = 3 := by simpa using e3
    have hg : t.gather o n = (o.getD []).filter fun s => t.is s [2] && ((t.get s).impl.getD []).contains n := by simp only [Tab.gather, e2, e3, if_false, if_true]; simp
    simp only [TT_nil, TT_f1, load_d1, getP_some, (ostr_like o).len]
    generalize hl : o.getD [] = l at *
    have hol : SLike (ostr o) (strs l) := hl ▸ ostr_like o
    refine ⟨fun m f H' => ∃ i : Nat, i + m = l.length ∧ f 26 = I ↑i ∧ OutL (f 5) H' ((l.take i).filter fun s => t.is s [2] && ((t.get s).impl.getD []).contains n), ⟨l.length, 0, by simp, rfl, OutL.nil _⟩, ?_⟩
    rintro m f H' ⟨i, hi, h26, hout⟩
    simp only [h26, lssI, getP_some, splitB_iff, decide_eq_true_eq, decide_eq_false_iff_not, List.length_map]
    refine ⟨fun hlt => ?_, fun hlt => ?_⟩
    · have hlt : i < l.length := by omega
      have hgi := List.getElem?_eq_getElem hlt
      simp only [hol.iaddr (get_map hlt) (strs_cells l), getP_some, AV.cells, load_d1, is_1 ht, TT_f0, TT_l0, lookup_f, field_impl, k21 (ostr_like _) (Tab.get_ok ht _).impl, splitB_iff, add1 (show i < 4611686018427387904 by omega)]
      refine ⟨fun e5 => ⟨fun e6 => ?_, fun e6 => ?_⟩, fun e5 => ?_⟩
      · obtain ⟨v', H1, ho', _, _, _, hk⟩ := app1 (hout.grow [.arr 1 0 0 (ints [2])]) l[i] (Nat.le_trans (filter_len _ _ _) ho)
        rw [hk]
        refine ⟨m - 1, by omega, i + 1, by omega, rfl, ?_⟩
        rw [filter_take _ hgi, e5, e6]; exact ho'
      · refine ⟨m - 1, by omega, i + 1, by omega, rfl, ?_⟩
        rw [filter_take _ hgi, e5, e6]; simpa using hout.grow _
      · refine ⟨m - 1, by omega, i + 1, by omega, rfl, ?_⟩
        rw [filter_take _ hgi, e5]; simpa using hout.grow _
    · have : l.take i = l := by rw [List.take_of_length_le]; omega
      rw [this] at hout
      rw [Tab.poss, hg]
      exact tail28 hout (Nat.lt_of_le_of_lt (List.length_filter_le _ _) (by omega))
  · have e2 : t.kind n ≠ 2 := by simpa using e2
    have e3 : t.kind n ≠ 3 := by simpa using e3
    have e4 : t.kind n = 4 := by simpa using e4
    have hg : t.gather o n = ((t.get n).mem.getD []).filter fun s => t.is s [2] := by simp only [Tab.gather, e2, e3, e4, if_false, if_true]; simp
    simp only [TT_nil, TT_f0, TT_l0, lookup_f, field_mem, load_d1, getP_some, (ostr_like _).len]
    generalize hl : (t.get n).mem.getD [] = l at *
    have hol : SLike (ostr (t.get n).mem) (strs l) := hl ▸ ostr_like _
    refine ⟨fun m f H' => ∃ i : Nat, i + m = l.length ∧ f 60 = I ↑i ∧ OutL (f 5) H' ((l.take i).filter fun s => t.is s [2]), ⟨l.length, 0, by simp, rfl, OutL.nil _⟩, ?_⟩
    rintro m f H' ⟨i, hi, h26, hout⟩
    simp only [h26, lssI, getP_some, splitB_iff, decide_eq_true_eq, decide_eq_false_iff_not, List.length_map]
    refine ⟨fun hlt => ?_, fun hlt => ?_⟩
    · have hlt : i < l.length := by omega
      have hgi := List.getElem?_eq_getElem hlt
      simp only [hol.iaddr (get_map hlt) (strs_cells l), getP_some, AV.cells, load_d1, is_1 ht, splitB_iff, add1 (show i < 4611686018427387904 by omega)]
      refine ⟨fun e5 => ?_, fun e5 => ?_⟩
      · obtain ⟨v', H1, ho', _, _, _, hk⟩ := app1 (hout.grow [.arr 1 0 0 (ints [2])]) l[i] (Nat.le_trans (filter_len _ _ _) hm)
        rw [hk]
        refine ⟨m - 1, by omega, i + 1, by omega, rfl, ?_⟩
        rw [filter_take _ hgi, e5]; exact ho'
      · refine ⟨m - 1, by omega, i + 1, by omega, rfl, ?_⟩
        rw [filter_take _ hgi, e5]; simpa using hout.grow _
    · have : l.take i = l := by rw [List.take_of_length_le]; omega
      rw [this] at hout
      rw [Tab.poss, hg]
      exact tail28 hout (Nat.lt_of_le_of_lt (List.length_filter_le _ _) (by omega))
  · have e2 : t.kind n ≠ 2 := by simpa using e2
    have e3 : t.kind n ≠ 3 := by simpa using e3
    have e4 : t.kind n ≠ 4 := by simpa using e4
    have hg : t.poss o n = possR [] := by simp [Tab.poss, Tab.gather, e2, e3, e4]
    rw [hg]
    exact tail28 (OutL.nil _) (by simp)
theorem k7 {t : Tab} (ht : t.ok) (o : Option (List Str)) (ho : (o.getD []).length ≤ 8796093022000) (n : Str) (hm : ((t.get n).mem.getD []).length ≤ 8796093022000) (H : Heap) (K) : callP env 7 [TT t o, .str n] H K = K (ostr (t.poss o n)) H := callP_eq (r7 ht o ho n hm H) K
end Go.AM.T

/- Contracts: types that overlap; lists of texts that are the same. -/
namespace Go.AM.T
set_option linter.unusedVariables false
set_option linter.unusedSimpArgs false
set_option maxRecDepth 100000

theorem r26 (o : Option (List Str)) (ho : ShortL (o.getD [])) (s : Str) (H : Heap) : Ret env 26 [.str s, .dptr [ostr o]] H (.bool ((o.getD []).contains s)) H := by
  refine Ret.isoX (f := c26) rfl rfl rfl (PubL.plain (by simp [AV.noIdsL, AV.noIds, ostr_noIds])) (Eq.mpr (x26 _ _ _ _ _) ?_)
  simp only [load_d1, getP_some, k21 (ostr_like o) ho, pub_bool]
theorem r49 (o q : Option (List Str)) (ho : ShortL (o.getD [])) (hq : ShortL (q.getD [])) {args : List AV} {H : Heap} (hp : PubL H args [ostr q, .fn 26 [.dptr [ostr o]]]) :
    Ret env 49 args H (I (idxFrom (fun s => (o.getD []).contains s) (q.getD []) 0)) H := by
  refine Ret.isoX (f := c49) rfl rfl rfl hp (Eq.mpr (x49 _ _ _ _ _) ?_)
  simp only [(ostr_like q).len, getP_some]
  have hql : SLike (ostr q) (strs (q.getD [])) := ostr_like q
  generalize q.getD [] = l at *
  refine ⟨fun n f H => ∃ i : Nat, i + n = l.length ∧ f 8 = I ↑i ∧ H = [] ∧ idxFrom (fun s => (o.getD []).contains s) l 0 = idxFrom (fun s => (o.getD []).contains s) (l.drop i) i, ⟨l.length, 0, by simp, rfl, rfl, rfl⟩, ?_⟩
  rintro n f H ⟨i, hi, h8, rfl, hr⟩
  simp only [h8, lssI, getP_some, splitB_iff, decide_eq_true_eq, decide_eq_false_iff_not, List.length_map]
  refine ⟨fun h => ?_, fun h => ?_⟩
  · have hlt : i < l.length := by omega
    simp only [hql.iaddr (get_map hlt) (strs_cells l), getP_some, AV.cells, load_d1]
    rw [callV_eq (r26 o ho l[i] [])]
    simp only [splitB_iff]
    rw [drop_cons (List.getElem?_eq_getElem hlt)] at hr
    refine ⟨fun e => ?_, fun e => ?_⟩
    · rw [pub_int, hr]; simp only [idxFrom, e, if_true]
    · rw [add1 (by omega), getP_some]
      refine ⟨n - 1, by omega, i + 1, by omega, rfl, by trivial, ?_⟩
      rw [hr]; simp only [idxFrom, e, Bool.false_eq_true, if_false]
  · have : l.drop i = [] := by simp; omega
    rw [pub_int, hr, this]; rfl
theorem r27 (o q : Option (List Str)) (ho : ShortL (o.getD [])) (hq : ShortL (q.getD [])) {args : List AV} {H : Heap} (hp : PubL H args [ostr q, .fn 26 [.dptr [ostr o]]]) :
    Ret env 27 args H (.bool ((q.getD []).any fun s => (o.getD []).contains s)) H := by
  refine Ret.isoX (f := c27) rfl rfl rfl hp (Eq.mpr (x27 _ _ _ _ _) ?_)
  rw [callP_eq (r49 o q ho hq (PubL.plain (by simp [AV.noIdsL, AV.noIds, ostr_noIds])))]
  simp only [geqI, getP_some, pub_bool]
  rw [idxFrom_nonneg]
def Tab.overlap (t : Tab) (o : Option (List Str)) (a b : Str) : Bool := ((t.poss o a).getD []).any fun s => ((t.poss o b).getD []).contains s
theorem compL_length : ∀ l : List Str, (compL l).length ≤ l.length
  | [] => Nat.le_refl _
  | [x] => Nat.le_refl _
  | x :: y :: r => by
    have := compL_length (y :: r)
    unfold compL
    split <;> simp only [List.length_cons] at this ⊢ <;> omega
theorem gather_len {t : Tab} {o : Option (List Str)} (ho : (o.getD []).length ≤ 8796093022000) {n : Str} (hm : ((t.get n).mem.getD []).length ≤ 8796093022000) : (t.gather o n).length ≤ 8796093022000 := by
  unfold Tab.gather
  split
  · simp
  · split
    · exact Nat.le_trans (List.length_filter_le _ _) ho
    · split
      · exact Nat.le_trans (List.length_filter_le _ _) hm
      · simp
theorem poss_len {t : Tab} {o : Option (List Str)} (ho : (o.getD []).length ≤ 8796093022000) {n : Str} (hm : ((t.get n).mem.getD []).length ≤ 8796093022000) : ((t.poss o n).getD []).length ≤ 8796093022000 := by
  unfold Tab.poss possR
  split
  · simp
  · refine Nat.le_trans (compL_length _) ?_
    rw [isort_length]; exact gather_len ho hm
theorem r11 {t : Tab} (ht : t.ok) (o : Option (List Str)) (ho : (o.getD []).length ≤ 8796093022000) (a b : Str) (hm : ∀ n, ((t.get n).mem.getD []).length ≤ 8796093022000) (H : Heap) : Ret env 11 [TT t o, .str a, .str b] H (.bool (t.overlap o a b)) H := by
  have hn : AV.noIdsL [TT t o, .str a, .str b] = true := by simp [AV.noIdsL, AV.noIds, TT_noIds ht]
  refine Ret.isoX (f := c11) rfl rfl rfl (PubL.plain hn) (Eq.mpr (x11 _ _ _ _ _ _) ?_)
  have hc : (ostr (t.poss o b)).isCell = true := by cases t.poss o b <;> rfl
  have hcc : (ostr (t.poss o b)).cells = [ostr (t.poss o b)] := by cases t.poss o b <;> rfl
  simp only [k7 ht o ho b (hm b), boxP_cell _ _ _ (show AV.nils.isCell = true from rfl)]
  have hst : storeA 1 (.ptr ([] : Heap).length 0) (ostr (t.poss o b)) ([] ++ [Blk.cells [.nils]]) = some [Blk.cells [ostr (t.poss o b)]] := by
    simp [storeA, hcc, hc, wr]
  rw [hst, getH_some, k7 ht o ho a (hm a)]
  have h1 := poss_len ho (hm a); have h2 := poss_len ho (hm b)
  show callP env 27 [ostr (t.poss o a), AV.fn 26 [AV.ptr 0 0]] [Blk.cells [ostr (t.poss o b)]] _
  rw [callP_eq (r27 (t.poss o b) (t.poss o a) (by omega) (by omega) (PubLF.cons (Pub.plain (ostr_noIds _)) (PubLF.cons (Pub.fn (PubLF.cons (Pub.ptr (b := 0) (off := 0) (cs := [ostr (t.poss o b)]) rfl (by simp) (PubLF.cons (Pub.plain (ostr_noIds _)) .nil)) .nil)) .nil)))]
  rw [pub_bool]; rfl
theorem k11 {t : Tab} (ht : t.ok) (o : Option (List Str)) (ho : (o.getD []).length ≤ 8796093022000) (a b : Str) (hm : ∀ n, ((t.get n).mem.getD []).length ≤ 8796093022000) (H : Heap) (K) : callP env 11 [TT t o, .str a, .str b] H K = K (.bool (t.overlap o a b)) H := callP_eq (r11 ht o ho a b hm H) K

/-! ### Texts -/
theorem r9 {a b : AV} {l m : List Str} (ha : SLike a (strs l)) (hb : SLike b (strs m)) (hl : ShortL l) (hm : ShortL m) {args : List AV} {H : Heap} (hp : PubL H args [a, b]) : Ret env 9 args H (.bool (l == m)) H := by
  refine Ret.isoX (f := c9) rfl rfl rfl hp (Eq.mpr (x9 _ _ _ _ _) ?_)
  simp only [ha.len, hb.len, getP_some, neqI, splitB_iff, List.length_map]
  refine ⟨fun h => ?_, fun h => ?_⟩
  · have : l.length ≠ m.length := by intro e; simp [e] at h
    rw [pub_bool]
    have : (l == m) = false := beq_eq_false_iff_ne.2 fun e => this (by rw [e])
    rw [this]
  · have hlen : l.length = m.length := by have := h; simp at this; omega
    refine ⟨fun n f H => ∃ i : Nat, i + n = l.length ∧ f 13 = I ↑i ∧ H = [] ∧ (l == m) = (l.drop i == m.drop i), ⟨l.length, 0, by simp, rfl, rfl, by simp⟩, ?_⟩
    rintro n f H ⟨i, hi, h8, rfl, hr⟩
    simp only [h8, lssI, getP_some, splitB_iff, decide_eq_true_eq, decide_eq_false_iff_not]
    refine ⟨fun h => ?_, fun h => ?_⟩
    · have hlt : i < l.length := by omega
      have hlt2 : i < m.length := by omega
      refine ⟨by kernel_rfl, ?_⟩
      simp only [ha.iaddr (get_map hlt) (strs_cells l), hb.iaddr (get_map hlt2) (strs_cells m), getP_some, AV.cells, load_d1, neqS, splitB_iff]
      refine ⟨trOk_quiet (by simp), ?_⟩
      rw [drop_cons (List.getElem?_eq_getElem hlt), drop_cons (List.getElem?_eq_getElem hlt2)] at hr
      refine ⟨fun e => ?_, fun e => ?_⟩
      · have e : ¬ l[i] = m[i] := by simpa using e
        have e2 : (l[i] == m[i]) = false := by simpa using e
        rw [pub_bool, hr, List.cons_beq_cons, e2]; rfl
      · have e : l[i] = m[i] := by simpa using e
        rw [add1 (by omega), getP_some]
        refine ⟨n - 1, by omega, i + 1, by omega, rfl, by trivial, ?_⟩
        rw [hr, List.cons_beq_cons, e]; simp
    · have h1 : l.drop i = [] := by simp; omega
      have h2 : m.drop i = [] := by simp; omega
      rw [pub_bool, hr, h1, h2]; rfl
end Go.AM.T
