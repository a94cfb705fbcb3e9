/- Reckoning with the A-machine's combinators. -/
import Derived.Test.YtbdpkblldffkcaaGreatDoorAd
import Derived.Test.YtbdpkblldffkcaaGreatDoorTa
import Derived.Test.YtbdpkblldffkcaaGreatDoorBa
import Derived.KernelRfl
set_option linter.unusedSectionVars false
set_option linter.unnecessarySimpa false
set_option linter.deprecated false
set_option linter.unusedVariables false
set_option linter.unusedSimpArgs false
namespace Go.AM
set_option linter.unusedVariables false
set_option linter.unusedSimpArgs false

theorem getP_some {α : Type} (v : α) (K : α → Prop) : getP (some v) K = K v := by
  simp [getP]
theorem getP_none {α : Type} (K : α → Prop) : getP none K = False := by
  simp [getP]
theorem getH_some (H : Heap) (K : Heap → Prop) : getH (some H) K = K H := by
  simp [getH]
theorem get2_some (v : AV) (H : Heap) (K : AV → Heap → Prop) : get2 (some (v, H)) K = K v H := by
  refine propext ⟨?_, fun h => ⟨v, H, rfl, h⟩⟩
  rintro ⟨v', H', h, k⟩
  cases h; exact k
theorem splitB_iff (b : Bool) (A B : Prop) : splitB (.bool b) A B = ((b = true → A) ∧ (b = false → B)) := by
  cases b <;> simp [splitB]
theorem splitB_t (A B : Prop) : splitB (.bool true) A B = A := rfl
theorem splitB_f (A B : Prop) : splitB (.bool false) A B = B := rfl
theorem boxP_cell (v : AV) (H : Heap) (K : AV → Heap → Prop) (h : v.isCell = true) : boxP v H K = K (.ptr H.length 0) (H ++ [.cells [v]]) := by
  cases v <;> simp_all [boxP, AV.cells, AV.isCell]
theorem boxP_agg (cs : List AV) (H : Heap) (K : AV → Heap → Prop) (h : cs.all AV.isCell = true) : boxP (.agg cs) H K = K (.ptr H.length 0) (H ++ [.cells cs]) := by
  simp_all [boxP, AV.cells]

section
variable {E : Env}
theorem Ret.inj {g : Nat} {args : List AV} {H : Heap} {v v' : AV} {H1 H2 : Heap} (h : Ret E g args H v H1) (k : Ret E g args H v' H2) : v = v' ∧ H1 = H2 := by
  obtain ⟨a, ha⟩ := h; obtain ⟨b, hb⟩ := k
  have := (ha (max a b) (by omega)).symm.trans (hb (max a b) (by omega))
  simpa using this
theorem callP_eq {g : Nat} {args : List AV} {H : Heap} {v : AV} {H1 : Heap} (h : Ret E g args H v H1) (K : AV → Heap → Prop) : callP E g args H K = K v H1 := by
  refine propext ⟨?_, fun k => ⟨v, H1, h, k⟩⟩
  rintro ⟨v', H', h', k⟩
  obtain ⟨rfl, rfl⟩ := h.inj h'
  exact k
theorem callV_eq {g : Nat} {cp args : List AV} {H : Heap} {v : AV} {H1 : Heap} (h : Ret E g (args ++ cp) H v H1) (K : AV → Heap → Prop) : callV E (.fn g cp) args H K = K v H1 := by
  refine propext ⟨?_, fun k => ⟨g, cp, rfl, v, H1, h, k⟩⟩
  rintro ⟨g', cp', e, v', H', h', k⟩
  cases e
  obtain ⟨rfl, rfl⟩ := h.inj h'
  exact k
end

/-! ### Whole numbers -/
theorem wrap64 {n : Int} (h1 : -9223372036854775808 ≤ n) (h2 : n < 9223372036854775808) : IntKind.wrap .i64 n = n := by
  simp only [IntKind.wrap, IntKind.bits, IntKind.signed, Bool.true_and]
  split
  · rename_i h; simp at h; omega
  · rename_i h; simp at h; omega
theorem add1 {i : Nat} (h : i < 4611686018427387904) : binop .add (.int .i64 ↑i) (.int .i64 1) = some (.int .i64 ↑(i + 1)) := by
  simp only [binop]
  rw [wrap64 (by omega) (by omega)]
  simp
theorem sub1 {i : Nat} (h0 : 0 < i) (h : i < 4611686018427387904) : binop .sub (.int .i64 ↑i) (.int .i64 1) = some (.int .i64 ↑(i - 1)) := by
  simp only [binop]
  rw [wrap64 (by omega) (by omega)]
  have : (i : Int) - 1 = ((i - 1 : Nat) : Int) := by omega
  rw [this]; simp
theorem subN {i j : Nat} (h0 : j ≤ i) (h : i < 4611686018427387904) : binop .sub (.int .i64 ↑i) (.int .i64 ↑j) = some (.int .i64 ↑(i - j)) := by
  simp only [binop]
  rw [wrap64 (by omega) (by omega)]
  have : (i : Int) - j = ((i - j : Nat) : Int) := by omega
  rw [this]; simp
theorem lssI (k : IntKind) (a b : Int) : binop .lss (.int k a) (.int k b) = some (.bool (decide (a < b))) := by simp [binop]
theorem leqI (k : IntKind) (a b : Int) : binop .leq (.int k a) (.int k b) = some (.bool (decide (a ≤ b))) := by simp [binop]
theorem gtrI (k : IntKind) (a b : Int) : binop .gtr (.int k a) (.int k b) = some (.bool (decide (b < a))) := by simp [binop]
theorem geqI (k : IntKind) (a b : Int) : binop .geq (.int k a) (.int k b) = some (.bool (decide (b ≤ a))) := by simp [binop]
theorem eqlI (k : IntKind) (a b : Int) : binop .eql (.int k a) (.int k b) = some (.bool (a == b)) := by simp [binop]
theorem neqI (k : IntKind) (a b : Int) : binop .neq (.int k a) (.int k b) = some (.bool (a != b)) := by simp [binop]
theorem eqlS (a b : Str) : binop .eql (.str a) (.str b) = some (.bool (a == b)) := rfl
theorem neqS (a b : Str) : binop .neq (.str a) (.str b) = some (.bool (a != b)) := rfl
theorem geqS (a b : Str) : binop .geq (.str a) (.str b) = some (.bool (!Op.bytesLess a b)) := rfl
theorem lssS (a b : Str) : binop .lss (.str a) (.str b) = some (.bool (Op.bytesLess a b)) := rfl
theorem notB (b : Bool) : unop .not (.bool b) = some (.bool !b) := rfl
theorem len_str (H : Heap) (s : Str) : lenA H .str (.str s) = some (.int .i64 ↑s.length) := rfl
theorem len_sl (H : Heap) (b off n : Nat) (sh : Option Nat) : lenA H .sl (.sl b off n sh) = some (.int .i64 ↑n) := rfl
theorem len_nils (H : Heap) : lenA H .sl .nils = some (.int .i64 0) := rfl
theorem len_data (H : Heap) (xs : List AV) : lenA H .sl (.data xs) = some (.int .i64 ↑xs.length) := rfl
theorem slice_to {s : Str} {n : Nat} {k : IntKind} (h : n ≤ s.length) : sliceA 0 (.str s) none (some (.int k ↑n)) none = some (.str (s.take n)) := by
  simp [sliceA, evNat, h]
theorem slice_from {s : Str} {n : Nat} {k : IntKind} (h : n ≤ s.length) : sliceA 0 (.str s) (some (.int k ↑n)) none none = some (.str (s.drop n)) := by
  simp [sliceA, evNat, h]

/-! ### What a slice of plain memory holds -/
def SLike (a : AV) (xs : List AV) : Prop := (a = .nils ∧ xs = []) ∨ a = .data xs
theorem SLike.nils : SLike .nils [] := .inl ⟨rfl, rfl⟩
theorem SLike.data (xs : List AV) : SLike (.data xs) xs := .inr rfl
theorem SLike.len {a : AV} {xs : List AV} (h : SLike a xs) (H : Heap) : lenA H .sl a = some (.int .i64 ↑xs.length) := by
  rcases h with ⟨rfl, rfl⟩ | rfl <;> rfl
theorem SLike.iaddr {a : AV} {xs : List AV} (h : SLike a xs) {i : Nat} {v : AV} {k : IntKind} {sh : Option Nat} (hi : xs[i]? = some v) (ha : ∀ x ∈ xs, x.cells.length = szOf sh) : iaddrA sh a (.int k ↑i) = some (.dptr v.cells) := by
  rcases h with ⟨rfl, rfl⟩ | rfl
  · simp at hi
  · have : xs.all (fun x => x.cells.length == szOf sh) = true := by simpa using ha
    simp [iaddrA, evNat, hi, this]
theorem load_d1 (v : AV) (H : Heap) : loadA none (.dptr [v]) H = some v := rfl
theorem load_dn {cs : List AV} {n : Nat} (h : cs.length = n) (H : Heap) : loadA (some n) (.dptr cs) H = some (.agg cs) := by
  subst h; simp [loadA, mkv]
theorem SLike.noIds {a : AV} {xs : List AV} (h : SLike a xs) : AV.noIds a = AV.noIdsL xs := by
  rcases h with ⟨rfl, rfl⟩ | rfl <;> rfl

/-! ### Made plain -/
def PubLF (fr : Bool) (H : Heap) (vs vs' : List AV) : Prop := ∃ k, ∀ k', k ≤ k' → pubL fr k' H vs = some vs'
theorem upF {P : Nat → Prop} : (∃ k, ∀ k', k ≤ k' → P (k' + 1)) → ∃ k, ∀ k', k ≤ k' → P k' := by
  rintro ⟨k, hk⟩
  refine ⟨k + 1, fun k' hk' => ?_⟩
  obtain ⟨i, rfl⟩ : ∃ i, k' = i + 1 := ⟨k' - 1, by omega⟩
  exact hk i (by omega)
section
variable {fr : Bool} {H : Heap}
theorem Pub.inj {v a b : AV} (h : Pub fr H v a) (k : Pub fr H v b) : a = b := by
  obtain ⟨m, hm⟩ := h; obtain ⟨n, hn⟩ := k
  have := (hm (max m n) (by omega)).symm.trans (hn (max m n) (by omega))
  simpa using this
theorem Pub.scalar {v : AV} (h : v.scalar = true) : Pub fr H v v := by
  refine upF (P := fun k => pub fr k H v = some v) ⟨0, fun k _ => ?_⟩
  cases v <;> simp_all [AV.scalar, pub]
theorem pub_bool (b : Bool) (v : AV) : Pub fr H (.bool b) v = (v = .bool b) := propext ⟨fun h => (h.inj (Pub.scalar rfl)), fun h => by subst h; exact Pub.scalar rfl⟩
theorem pub_int (k : IntKind) (b : Int) (v : AV) : Pub fr H (.int k b) v = (v = .int k b) := propext ⟨fun h => (h.inj (Pub.scalar rfl)), fun h => by subst h; exact Pub.scalar rfl⟩
theorem pub_str (b : Str) (v : AV) : Pub fr H (.str b) v = (v = .str b) := propext ⟨fun h => (h.inj (Pub.scalar rfl)), fun h => by subst h; exact Pub.scalar rfl⟩
theorem PubLF.nil : PubLF fr H [] [] := upF (P := fun k => pubL fr k H [] = some []) ⟨0, fun k _ => rfl⟩
theorem PubLF.cons {v v' : AV} {r r' : List AV} (h : Pub fr H v v') (k : PubLF fr H r r') : PubLF fr H (v :: r) (v' :: r') := by
  obtain ⟨a, ha⟩ := h; obtain ⟨b, hb⟩ := k
  refine upF (P := fun k => pubL fr k H (v :: r) = some (v' :: r')) ⟨max a b, fun k hk => ?_⟩
  simp [pubL, ha k (by omega), hb k (by omega)]
theorem PubLF.scalars {vs : List AV} (h : ∀ v ∈ vs, v.scalar = true) : PubLF fr H vs vs := by
  induction vs with
  | nil => exact .nil
  | cons v r ih => exact .cons (.scalar (h v (by simp))) (ih fun x hx => h x (by simp [hx]))
theorem Pub.agg {cs cs' : List AV} (h : PubLF fr H cs cs') : Pub fr H (.agg cs) (.agg cs') := by
  obtain ⟨a, ha⟩ := h
  refine upF (P := fun k => pub fr k H (.agg cs) = some (.agg cs')) ⟨a, fun k hk => ?_⟩
  simp [pub, ha k hk]
theorem Pub.tup {cs cs' : List AV} (h : PubLF fr H cs cs') : Pub fr H (.tup cs) (.tup cs') := by
  obtain ⟨a, ha⟩ := h
  refine upF (P := fun k => pub fr k H (.tup cs) = some (.tup cs')) ⟨a, fun k hk => ?_⟩
  simp [pub, ha k hk]
theorem Pub.scalars2 {a b : AV} (ha : a.scalar = true := by rfl) (hb : b.scalar = true := by rfl) : Pub fr H (.tup [a, b]) (.tup [a, b]) := Pub.tup (.cons (.scalar ha) (.cons (.scalar hb) .nil))
theorem Pub.fn {g : Nat} {cs cs' : List AV} (h : PubLF fr H cs cs') : Pub fr H (.fn g cs) (.fn g cs') := by
  obtain ⟨a, ha⟩ := h
  refine upF (P := fun k => pub fr k H (.fn g cs) = some (.fn g cs')) ⟨a, fun k hk => ?_⟩
  simp [pub, ha k hk]
theorem Pub.ptr {b off : Nat} {cs cs' : List AV} (hb : H[b]? = some (.cells cs)) (ho : off ≤ cs.length) (h : PubLF fr H (cs.drop off) cs') : Pub fr H (.ptr b off) (.dptr cs') := by
  obtain ⟨a, ha⟩ := h
  refine upF (P := fun k => pub fr k H (.ptr b off) = some (.dptr cs')) ⟨a, fun k hk => ?_⟩
  simp [pub, ha k hk, hb, ho]
theorem Pub.map {b : Nat} {ks vs ks' vs' : List AV} (hb : H[b]? = some (.map ks vs)) (h : PubLF fr H ks ks') (k : PubLF fr H vs vs') : Pub fr H (.map b) (.dmap ks' vs') := by
  obtain ⟨a, ha⟩ := h; obtain ⟨c, hc⟩ := k
  refine upF (P := fun k => pub fr k H (.map b) = some (.dmap ks' vs')) ⟨max a c, fun k hk => ?_⟩
  simp [pub, ha k (by omega), hc k (by omega), hb]
theorem Pub.sl {b off len sz tag fz : Nat} {sh : Option Nat} {cs cs' xs : List AV} (hb : H[b]? = some (.arr sz tag fz cs)) (hs : sz = szOf sh) (ho : off + len * sz ≤ cs.length) (h : PubLF fr H ((cs.drop off).take (len * sz)) cs') (hc : chunk sh len cs' = some xs) : Pub fr H (.sl b off len sh) (.data xs) := by
  obtain ⟨a, ha⟩ := h
  refine upF (P := fun k => pub fr k H (.sl b off len sh) = some (.data xs)) ⟨a, fun k hk => ?_⟩
  subst hs
  simp [pub, ha k hk, hb, ho, hc]
theorem chunk_none : ∀ (xs : List AV), chunk none xs.length xs = some xs
  | [] => rfl
  | x :: r => by simp [chunk, mkv, szOf, chunk_none r]
theorem chunk_some (n : Nat) : ∀ (xs : List (List AV)), (∀ x ∈ xs, x.length = n) → chunk (some n) xs.length xs.flatten = some (xs.map .agg)
  | [], _ => rfl
  | x :: r, h => by
    have hx := h x (by simp)
    have := chunk_some n r fun y hy => h y (by simp [hy])
    subst hx
    simp [chunk, mkv, szOf, this]
/-- Slices of cells that lead nowhere. -/
theorem Pub.row {b tag fz : Nat} {cs : List AV} (hb : H[b]? = some (.arr 1 tag fz cs)) (hc : ∀ v ∈ cs, v.scalar = true) : Pub fr H (.sl b 0 cs.length none) (.data cs) :=
  Pub.sl hb rfl (by simp) (by simpa using PubLF.scalars hc) (chunk_none cs)
theorem PubL.of {vs vs' : List AV} (h : PubLF false H vs vs') : PubL H vs vs' := h
theorem PubLF.plain {vs : List AV} (h : AV.noIdsL vs = true) : PubLF false H vs vs := PubL.plain h
end
end Go.AM
namespace Go.AM
section
variable {E : Env}
/-- A call whose answer is told by what holds of it. -/
theorem Ret.openQ {g : Nat} {f : RF} {args : List AV} {H : Heap} (hp : E.prim g = none) (hf : E.fn g = some f) (hi : f.iso = false) {Q : AV → Heap → Prop}
    (h : X E f.body (fnPost f.res Q) (args ++ List.replicate (f.nt - args.length) undef) H) : ∃ v H', Q v H' ∧ Ret E g args H v H' := by
  obtain ⟨out, s', H1, ⟨k, hk⟩, h⟩ := W_sound (X_sound h)
  obtain ⟨hno, v, hr, hQ⟩ := fnPost_ok h
  refine ⟨v, H1, hQ, k + 1, fun k' hk' => ?_⟩
  obtain ⟨i, rfl⟩ : ∃ i, k' = i + 1 := ⟨k' - 1, by omega⟩
  obtain ⟨vs, h1, h2⟩ := Option.map_eq_some_iff.1 hr
  subst h2
  simp only [callF, hp, hf, hi, Bool.false_eq_true, if_false, bodyF, hk i (by omega), Option.bind_some]
  cases out with
  | exit id => exact absurd rfl (hno id)
  | normal => simp only [h1, Option.map_some]
  | ret => simp only [h1, Option.map_some]
theorem Ret.isoQ {g : Nat} {f : RF} {args args' : List AV} {H : Heap} (hp : E.prim g = none) (hf : E.fn g = some f) (hi : f.iso = true) (ha : PubL H args args') {Q : AV → Prop}
    (h : X E f.body (fnPost f.res fun v0 H1 => ∃ v, Pub (!AV.noIdsL args) H1 v0 v ∧ Q v) (args' ++ List.replicate (f.nt - args'.length) undef) []) : ∃ v, Q v ∧ Ret E g args H v H := by
  obtain ⟨out, s', H1, ⟨k, hk⟩, h⟩ := W_sound (X_sound h)
  obtain ⟨hno, v0, hr, v, ⟨k2, h2⟩, hQ⟩ := fnPost_ok h
  obtain ⟨k1, h1⟩ := ha
  refine ⟨v, hQ, max k (max k1 k2) + 1, fun k' hk' => ?_⟩
  obtain ⟨i, rfl⟩ : ∃ i, k' = i + 1 := ⟨k' - 1, by omega⟩
  obtain ⟨vs, h3, h4⟩ := Option.map_eq_some_iff.1 hr
  subst h4
  simp only [callF, hp, hf, hi, if_true, h1 i (by omega), Option.bind_some, bodyF, hk i (by omega)]
  cases out with
  | exit id => exact absurd rfl (hno id)
  | normal => simp only [h3, Option.map_some, Option.bind_some, h2 i (by omega)]
  | ret => simp only [h3, Option.map_some, Option.bind_some, h2 i (by omega)]
end
theorem iaddr_sl {b off n i : Nat} {k : IntKind} (h : i < n) : iaddrA none (.sl b off n none) (.int k ↑i) = some (.ptr b (off + i)) := by
  simp [iaddrA, evNat, h, szOf]
theorem load_arr {H : Heap} {b off sz tag fz : Nat} {cs : List AV} {v : AV} (hb : H[b]? = some (.arr sz tag fz cs)) (h : cs[off]? = some v) : loadA none (.ptr b off) H = some v := by
  simp [loadA, hb, mkv, List.head?_drop, h]
theorem wr1 {cs : List AV} {off : Nat} {v : AV} (h : off < cs.length) : wr cs off [v] = cs.set off v := by
  simp [wr, List.set_eq_take_append_cons_drop, h]
theorem store_arr {H : Heap} {b off sz tag fz : Nat} {cs : List AV} {v : AV} (hb : H[b]? = some (.arr sz tag fz cs)) (hf : fz ≤ off) (ho : off < cs.length) (hv : v.isCell = true) :
    storeA 1 (.ptr b off) v H = some (H.set b (.arr sz tag fz (cs.set off v))) := by
  have hc : v.cells = [v] := by cases v <;> simp_all [AV.cells, AV.isCell]
  simp [storeA, hc, hv, hb, hf, ← wr1 ho, show off + 1 ≤ cs.length by omega]
theorem sub_lo {b off n i : Nat} {k : IntKind} (h : i ≤ n) : sliceA 1 (.sl b off n none) (some (.int k ↑i)) none none = some (.sl b (off + i) (n - i) none) := by
  simp [sliceA, evNat, h, szOf]
theorem sub_hi {b off n i : Nat} {k : IntKind} (h : i ≤ n) : sliceA 1 (.sl b off n none) none (some (.int k ↑i)) none = some (.sl b off i none) := by
  simp [sliceA, evNat, h, szOf]
end Go.AM

/- Contracts: texts and their ends. -/
namespace Go.AM.T
set_option linter.unusedVariables false
set_option linter.unusedSimpArgs false
set_option maxRecDepth 100000

/-- Is t the end of s? -/
def sufB (s t : Str) : Bool := decide (t.length ≤ s.length) && (s.drop (s.length - t.length) == t)
def preB (s t : Str) : Bool := decide (t.length ≤ s.length) && (s.take t.length == t)
abbrev Short (s : Str) : Prop := s.length < 4611686018427387904

theorem r82 (s t : Str) (hs : Short s) (H : Heap) : Ret env 82 [.str s, .str t] H (.bool (preB s t)) H := by
  refine Ret.isoX (f := c82) rfl rfl rfl (PubL.plain rfl) (Eq.mpr (x82 _ _ _ _ _) ?_)
  simp only [len_str, getP_some, geqI, splitB_iff, decide_eq_true_eq, decide_eq_false_iff_not]
  refine ⟨fun h => ?_, fun h => ?_⟩
  · have h' : t.length ≤ s.length := by omega
    simp only [slice_to h', getP_some, eqlS, pub_bool, preB, h', decide_true, Bool.true_and]
  · have h' : ¬ t.length ≤ s.length := by omega
    simp only [pub_bool, preB, h', decide_false, Bool.false_and]
theorem k82 (s t : Str) (hs : Short s) (H : Heap) (K) : callP env 82 [.str s, .str t] H K = K (.bool (preB s t)) H := callP_eq (r82 s t hs H) K
def trimS (s t : Str) : Str := if sufB s t then s.take (s.length - t.length) else s
def cutP (s t : Str) : Str := if preB s t then s.drop t.length else s
abbrev nonNullB (s : Str) : Bool := sufB s [33]
abbrev nullableS (s : Str) : Str := trimS s [33]
theorem trim_le (s t : Str) : (trimS s t).length ≤ s.length := by unfold trimS; split <;> simp
theorem cut_le (s t : Str) : (cutP s t).length ≤ s.length := by unfold cutP; split <;> simp
def isList (s : Str) : Bool := preB (nullableS s) [91]
def itemS (s : Str) : Str := if isList s then trimS (cutP (nullableS s) [91]) [93] else []
end Go.AM.T

/- Contracts: lists and tables of types. -/
namespace Go.AM.T
set_option linter.unusedVariables false
set_option linter.unusedSimpArgs false
set_option maxRecDepth 100000

/-! ### Where a thing stands in a list -/
def idxFrom {α : Type} (p : α → Bool) : List α → Nat → Int
  | [], _ => -1
  | y :: r, i => if p y then ↑i else idxFrom p r (i + 1)
theorem idxFrom_nonneg {α : Type} (p : α → Bool) : ∀ (l : List α) (i : Nat), decide (0 ≤ idxFrom p l i) = l.any p
  | [], i => by simp [idxFrom]
  | y :: r, i => by
    unfold idxFrom
    cases h : p y
    · simp [h, ← idxFrom_nonneg p r (i + 1)]
    · simp [h]
theorem drop_cons {α : Type} {l : List α} {i : Nat} {v : α} (h : l[i]? = some v) : l.drop i = v :: l.drop (i + 1) := by
  obtain ⟨hi, rfl⟩ := List.getElem?_eq_some_iff.1 h
  exact List.drop_eq_getElem_cons hi
theorem get_map {α β : Type} {l : List α} {f : α → β} {i : Nat} (h : i < l.length) : (l.map f)[i]? = some (f l[i]) := by simp [h]

abbrev I (n : Int) : AV := .int .i64 n
abbrev ints (l : List Int) : List AV := l.map I
abbrev strs (l : List Str) : List AV := l.map .str
theorem strs_noIds : ∀ l : List Str, AV.noIdsL (strs l) = true
  | [] => rfl
  | x :: r => by simp [AV.noIdsL, AV.noIds, strs_noIds r]
theorem ints_noIds : ∀ l : List Int, AV.noIdsL (ints l) = true
  | [] => rfl
  | x :: r => by simp [AV.noIdsL, AV.noIds, ints_noIds r]
theorem strs_cells (l : List Str) : ∀ x ∈ strs l, x.cells.length = szOf none := by simp [AV.cells, szOf]
theorem ints_cells (l : List Int) : ∀ x ∈ ints l, x.cells.length = szOf none := by simp [AV.cells, szOf]
theorem strs_scalar (l : List Str) : ∀ x ∈ strs l, x.scalar = true := by simp [AV.scalar]
theorem ints_scalar (l : List Int) : ∀ x ∈ ints l, x.scalar = true := by simp [AV.scalar]
abbrev ShortL {α : Type} (l : List α) : Prop := l.length < 4611686018427387904

theorem r50 {a : AV} {l : List Str} (ha : SLike a (strs l)) (hl : ShortL l) (x : Str) {args : List AV} {H : Heap} (hp : PubL H args [a, .str x]) : Ret env 50 args H (I (idxFrom (fun y => x == y) l 0)) H := by
  refine Ret.isoX (f := c50) rfl rfl rfl hp (Eq.mpr (x50 _ _ _ _ _) ?_)
  simp only [ha.len, getP_some]
  refine ⟨fun n f H => ∃ i : Nat, i + n = l.length ∧ f 8 = I ↑i ∧ H = [] ∧ idxFrom (fun y => x == y) l 0 = idxFrom (fun y => x == y) (l.drop i) i, ⟨l.length, 0, by simp, rfl, rfl, rfl⟩, ?_⟩
  rintro n f H ⟨i, hi, h8, rfl, hr⟩
  simp only [h8, lssI, getP_some, splitB_iff, decide_eq_true_eq, decide_eq_false_iff_not, List.length_map]
  refine ⟨fun h => ?_, fun h => ?_⟩
  · have hlt : i < l.length := by omega
    simp only [ha.iaddr (get_map hlt) (strs_cells l), getP_some, AV.cells, load_d1, eqlS, splitB_iff]
    rw [drop_cons (List.getElem?_eq_getElem hlt)] at hr
    refine ⟨fun e => ?_, fun e => ?_⟩
    · rw [pub_int, hr]; simp only [idxFrom, e, if_true]
    · rw [add1 (by omega), getP_some]
      refine ⟨n - 1, by omega, i + 1, by omega, rfl, by trivial, ?_⟩
      rw [hr]; simp only [idxFrom, e, Bool.false_eq_true, if_false]
  · have : l.drop i = [] := by simp; omega
    rw [pub_int, hr, this]; rfl
theorem any_eq_contains {α : Type} [BEq α] (l : List α) (x : α) : (l.any fun y => x == y) = l.contains x := by
  induction l with
  | nil => rfl
  | cons y r ih => simp [List.any_cons, ih]
/-! ### Tables of types -/
def ostr : Option (List Str) → AV
  | none => .nils
  | some l => .data (strs l)
theorem ostr_like : ∀ o, SLike (ostr o) (strs (o.getD []))
  | none => .nils
  | some l => .data _
theorem ostr_noIds : ∀ o, AV.noIds (ostr o) = true
  | none => rfl
  | some l => by simp [ostr, AV.noIds, strs_noIds]
structure TDef where
  kind : Int
  name : Str
  impl : Option (List Str)
  fields : AV
  mem : Option (List Str)
  inputs : AV
  pos : Int
def TDef.av (d : TDef) : AV := .agg [I d.kind, .str d.name, ostr d.impl, d.fields, ostr d.mem, d.inputs, I d.pos]
/-- Its parts are plain, and no longer than can be. -/
structure TDef.ok (d : TDef) : Prop where
  f : AV.noIds d.fields = true
  i : AV.noIds d.inputs = true
  impl : ShortL (d.impl.getD [])
  mem : ShortL (d.mem.getD [])
  name : Short d.name
def zeroDef : TDef := ⟨0, [], none, .nils, none, .nils, 0⟩
theorem zeroDef_ok : zeroDef.ok := ⟨rfl, rfl, by simp [zeroDef], by simp [zeroDef], by simp [zeroDef]⟩
theorem zeroDef_av : zeroDef.av = .agg [I 0, .str [], .nils, .nils, .nils, .nils, I 0] := rfl
abbrev Tab := List (Str × TDef)
def Tab.keys (t : Tab) : List AV := t.map fun p => .str p.1
def Tab.vals (t : Tab) : List AV := t.map fun p => p.2.av
def Tab.ok (t : Tab) : Prop := ∀ p ∈ t, p.2.ok
theorem TDef.noIds {d : TDef} (h : d.ok) : AV.noIds d.av = true := by simp [TDef.av, AV.noIds, AV.noIdsL, ostr_noIds, h.f, h.i]
theorem Tab.keys_noIds : ∀ t : Tab, AV.noIdsL t.keys = true
  | [] => rfl
  | p :: r => by have := Tab.keys_noIds r; simp only [Tab.keys] at this ⊢; simp [AV.noIdsL, AV.noIds, this]
theorem Tab.vals_noIds : ∀ t : Tab, t.ok → AV.noIdsL t.vals = true
  | [], _ => rfl
  | p :: r, h => by
    have := Tab.vals_noIds r fun q hq => h q (by simp [hq])
    simp only [Tab.vals] at this ⊢
    simp [AV.noIdsL, TDef.noIds (h p (by simp)), this]
def Tab.look (t : Tab) (n : Str) : Option TDef := (t.find? fun p => p.1 == n).map (·.2)
def Tab.get (t : Tab) (n : Str) : TDef := (t.look n).getD zeroDef
theorem Tab.get_ok {t : Tab} (h : t.ok) (n : Str) : (t.get n).ok := by
  unfold Tab.get Tab.look
  cases e : t.find? fun p => p.1 == n with
  | none => exact zeroDef_ok
  | some p => exact h p (List.mem_of_find?_eq_some e)
theorem findK_str (n : Str) : ∀ (t : Tab) (i : Nat), findK (.str n) t.keys i = some ((t.findIdx? fun p => p.1 == n).map (· + i))
  | [], i => rfl
  | p :: r, i => by
    have := findK_str n r (i + 1)
    simp only [Tab.keys] at this
    simp only [Tab.keys, List.map_cons, findK, AV.keyEq, List.findIdx?_cons]
    by_cases h : n = p.1
    · subst h; simp
    · have h1 : (n == p.1) = false := by simpa using h
      have h2 : (p.1 == n) = false := by simpa using fun e => h e.symm
      rw [h1, h2]
      simp only [this, Bool.false_eq_true, if_false, Option.map_map]
      congr 2
      funext j; simp; omega
theorem look_idx (n : Str) : ∀ (t : Tab), match t.findIdx? (fun p => p.1 == n) with
    | some i => ∃ d, t.look n = some d ∧ t.vals[i]? = some d.av
    | none => t.look n = none
  | [] => rfl
  | p :: r => by
    have := look_idx n r
    rw [List.findIdx?_cons]
    by_cases h : (p.1 == n) = true
    · simp only [h, if_true]
      exact ⟨p.2, by simp [Tab.look, h], by simp [Tab.vals]⟩
    · simp only [h, Bool.false_eq_true, if_false]
      have e : Tab.look (p :: r) n = Tab.look r n := by simp [Tab.look, List.find?_cons, h]
      rw [e]
      cases hi : r.findIdx? fun p => p.1 == n with
      | none => rw [hi] at this; simpa using this
      | some i => rw [hi] at this; simpa [Tab.vals] using this
theorem lookup_f (t : Tab) (n : Str) (H : Heap) : lookupA .str (.agg [I 0, .str [], .nils, .nils, .nils, .nils, I 0]) (.dmap t.keys t.vals) (.str n) false H = some (t.get n).av := by
  have := look_idx n t
  simp only [lookupA, AV.isKey, decide_true, if_true, mapOf, Option.bind_some, findK_str, Option.map_some, Nat.add_zero]
  cases hi : t.findIdx? fun p => p.1 == n with
  | none => rw [hi] at this; simp [Tab.get, this, zeroDef_av]
  | some i => rw [hi] at this; obtain ⟨d, h1, h2⟩ := this; simp [Tab.get, h1, h2, List.getD_eq_getElem?_getD]
theorem lookup_t (t : Tab) (n : Str) (H : Heap) : lookupA .str (.agg [I 0, .str [], .nils, .nils, .nils, .nils, I 0]) (.dmap t.keys t.vals) (.str n) true H = some (.tup [(t.get n).av, .bool (t.look n).isSome]) := by
  have := look_idx n t
  simp only [lookupA, AV.isKey, decide_true, if_true, mapOf, Option.bind_some, findK_str, Option.map_some, Nat.add_zero]
  cases hi : t.findIdx? fun p => p.1 == n with
  | none => rw [hi] at this; simp [Tab.get, this, zeroDef_av]
  | some i => rw [hi] at this; obtain ⟨d, h1, h2⟩ := this; simp [Tab.get, h1, h2, List.getD_eq_getElem?_getD]
/-- What New gives, made plain. -/
def TT (t : Tab) (o : Option (List Str)) : AV := .dptr [.dmap t.keys t.vals, ostr o]
theorem TT_noIds {t : Tab} (h : t.ok) (o) : AV.noIds (TT t o) = true := by simp [TT, AV.noIds, AV.noIdsL, Tab.keys_noIds, Tab.vals_noIds t h, ostr_noIds]
theorem TT_nil (t : Tab) (o) : nilA (TT t o) = some (TT t o) := rfl
theorem TT_f0 (t : Tab) (o) : faddrA 0 (TT t o) = some (TT t o) := rfl
theorem TT_l0 (t : Tab) (o) (H : Heap) : loadA none (TT t o) H = some (.dmap t.keys t.vals) := rfl
theorem TT_f1 (t : Tab) (o) : faddrA 1 (TT t o) = some (.dptr [ostr o]) := rfl
def Tab.kind (t : Tab) (n : Str) : Int := (t.get n).kind
def Tab.is (t : Tab) (n : Str) (l : List Int) : Bool := t.kind n != 0 && l.contains (t.kind n)
theorem fill_ints : ∀ (l : List Int), True := fun _ => trivial
def Tab.comp (t : Tab) (n : Str) : Bool := t.is n [2, 3, 4]
end Go.AM.T

/- Contracts: names; a type that fits another. -/
namespace Go.AM.T
set_option linter.unusedVariables false
set_option linter.unusedSimpArgs false
set_option maxRecDepth 100000

/-! ### Names -/
def letterB (c : Int) : Bool := (decide (97 ≤ c) && decide (c ≤ 122)) || ((decide (65 ≤ c) && decide (c ≤ 90)) || c == 95)
def digitB (c : Int) : Bool := decide (48 ≤ c) && decide (c ≤ 57)
def nameRest (s : Str) : Bool := s.all fun c => letterB c.toNat || digitB c.toNat
def nameB (s : Str) : Bool := match s with
  | [] => false
  | c :: _ => letterB c.toNat && nameRest s
theorem nameRest_cons (c : UInt8) (r : Str) : nameRest (c :: r) = ((letterB c.toNat || digitB c.toNat) && nameRest r) := by simp [nameRest]
theorem index_str {s : Str} {i : Nat} {c : UInt8} {k : IntKind} (h : s[i]? = some c) : indexA 0 none (.str s) (.int k ↑i) = some (.int .u8 c.toNat) := by
  simp [indexA, evNat, h]
/-! ### A type that fits another -/
theorem suf_lt {s t : Str} (h : sufB s t = true) (ht : 0 < t.length) : (trimS s t).length < s.length := by
  have : t.length ≤ s.length := by simp [sufB] at h; exact h.1
  simp only [trimS, h, if_true, List.length_take]; omega
theorem pre_lt {s t : Str} (h : preB s t = true) (ht : 0 < t.length) : (cutP s t).length < s.length := by
  have : t.length ≤ s.length := by simp [preB] at h; exact h.1
  simp only [cutP, h, if_true, List.length_drop]; omega
theorem item_lt {s : Str} (h : isList s = true) : (itemS s).length < s.length := by
  simp only [itemS, h, if_true]
  exact Nat.lt_of_le_of_lt (trim_le _ _) (Nat.lt_of_lt_of_le (pre_lt h (by simp)) (trim_le _ _))
def Tab.fits (t : Tab) (a b : Str) : Bool :=
  if h : nonNullB a = true then t.fits (nullableS a) (nullableS b)
  else if nonNullB b then false
  else if h : isList a = true then (if isList b then t.fits (itemS a) (itemS b) else false)
  else if isList b then false
  else if a == b then true
  else if t.is b [3] then t.is a [2, 3] && ((t.get a).impl.getD []).contains b
  else t.is b [4] && (t.is a [2] && ((t.get b).mem.getD []).contains a)
termination_by a.length
decreasing_by
  · exact suf_lt h (by simp)
  · exact item_lt h
theorem field_impl (d : TDef) : fieldA 2 none d.av = some (ostr d.impl) := rfl
theorem field_mem (d : TDef) : fieldA 4 none d.av = some (ostr d.mem) := rfl
theorem field_kind (d : TDef) : fieldA 0 none d.av = some (I d.kind) := rfl
end Go.AM.T

/- Contracts: lists that are made, put in order, made short. -/
namespace Go.AM.T
set_option linter.unusedVariables false
set_option linter.unusedSimpArgs false
set_option maxRecDepth 100000

/-! ### What a list of one's own holds -/
def OutL (v : AV) (H : Heap) (l : List Str) : Prop := (v = .nils ∧ l = []) ∨ ∃ b, v = .sl b 0 l.length none ∧ H[b]? = some (.arr 1 0 0 (strs l)) ∧ 0 < l.length
theorem OutL.nil (H : Heap) : OutL .nils H [] := .inl ⟨rfl, rfl⟩
theorem getElem?_grow {α : Type} {H : List α} {b : Nat} {x : α} (h : H[b]? = some x) (X : List α) : (H ++ X)[b]? = some x := by
  obtain ⟨hb, rfl⟩ := List.getElem?_eq_some_iff.1 h
  rw [List.getElem?_append_left hb]; simp [hb]
theorem OutL.grow {v : AV} {H : Heap} {l : List Str} (h : OutL v H l) (X : Heap) : OutL v (H ++ X) l := by
  rcases h with h | ⟨b, h1, h2, h3⟩
  · exact .inl h
  · exact .inr ⟨b, h1, getElem?_grow h2 X, h3⟩
theorem appA_nil (H : Heap) (s : Str) : appA none 0 16 .nils (.sl H.length 0 1 none) (H ++ [Blk.arr 1 0 0 [.str s]]) = some (.sl (H.length + 1) 0 1 none, H ++ [Blk.arr 1 0 0 [.str s]] ++ [Blk.arr 1 0 0 [.str s]]) := by
  simp [appA, elemsOf, szOf, appendA]
theorem appA_sl {H : Heap} {b : Nat} {l : List Str} (hb : H[b]? = some (.arr 1 0 0 (strs l))) (hl : l.length ≤ 8796093022000) (s : Str) :
    appA none 0 16 (.sl b 0 l.length none) (.sl H.length 0 1 none) (H ++ [Blk.arr 1 0 0 [.str s]]) = some (.sl (H.length + 1) 0 (l ++ [s]).length none, (H ++ [Blk.arr 1 0 0 [.str s]]).set b .dead ++ [Blk.arr 1 0 0 (strs (l ++ [s]))]) := by
  have h1 : (l.length + 1) * 16 ≤ 140737488355328 := by omega
  have h2 : l.length + 1 < 9223372036854775808 := by omega
  have e : List.take l.length (strs l) = strs l := by rw [show l.length = (strs l).length by simp, List.take_length]
  simp [appA, elemsOf, szOf, appendA, getElem?_grow hb, h1, h2, e]
theorem sl1 (s : Str) (H : Heap) (K) : sliceP none 0 1 [AV.str []] [(0, 1, AV.str s)] H K = K (.sl H.length 0 1 none) (H ++ [Blk.arr 1 0 0 [.str s]]) := by
  refine propext ⟨?_, fun h => ⟨[.str s], rfl, h⟩⟩
  rintro ⟨cs, h1, h2⟩
  cases h1
  exact h2
theorem app1 {v : AV} {H : Heap} {l : List Str} (h : OutL v H l) (s : Str) (hl : l.length ≤ 8796093022000) :
    ∃ v' H', OutL v' H' (l ++ [s]) ∧ (∀ b x, H[b]? = some x → v ≠ .sl b 0 l.length none → H'[b]? = some x) ∧ H.length + 1 ≤ H'.length ∧ (∀ b, v' = .sl b 0 (l ++ [s]).length none → H.length ≤ b) ∧
      ∀ K : AV → Heap → AV → Heap → Prop, sliceP none 0 1 [AV.str []] [(0, 1, AV.str s)] H (fun v1 h1 => get2 (appA none 0 16 v v1 h1) (K v1 h1)) = K (.sl H.length 0 1 none) (H ++ [Blk.arr 1 0 0 [.str s]]) v' H' := by
  rcases h with ⟨rfl, rfl⟩ | ⟨b, rfl, hb, hp⟩
  · refine ⟨.sl (H.length + 1) 0 1 none, H ++ [Blk.arr 1 0 0 [.str s]] ++ [Blk.arr 1 0 0 [.str s]], ?_, ?_, by simp, ?_, ?_⟩
    · exact .inr ⟨H.length + 1, rfl, by simp, by simp⟩
    · intro b x hx _; exact getElem?_grow (getElem?_grow hx _) _
    · intro b hb; injection hb with e; omega
    · intro K; rw [sl1, appA_nil, get2_some]
  · have hlt : b < H.length := (List.getElem?_eq_some_iff.1 hb).1
    refine ⟨.sl (H.length + 1) 0 (l ++ [s]).length none, (H ++ [Blk.arr 1 0 0 [.str s]]).set b .dead ++ [Blk.arr 1 0 0 (strs (l ++ [s]))], ?_, ?_, by simp, ?_, ?_⟩
    · exact .inr ⟨H.length + 1, rfl, by rw [List.getElem?_append_right (by simp)]; simp, by simp⟩
    · intro c x hx hne
      have hc := (List.getElem?_eq_some_iff.1 hx).1
      have : b ≠ c := fun e => hne (by rw [e])
      refine getElem?_grow ?_ _
      rw [List.getElem?_set_ne this]
      exact getElem?_grow hx _
    · intro b hb; injection hb with e; omega
    · intro K; rw [sl1, appA_sl hb hl, get2_some]
/-! ### Regions whose order is open, where nothing is turned -/
theorem trOk_quiet {ops : List RO} {tr : List Tr} (h : ∀ t ∈ tr, t.after = t.before) : trOk ops tr = true := by
  have hp : ∀ p, pairOk tr p = true := by
    intro p
    unfold pairOk
    split
    · rename_i ti tl h1 h2
      have := h tl (List.mem_of_getElem? h2)
      split
      · rfl
      · simp [this]
    · rfl
  simp only [trOk, Bool.and_eq_true, List.all_eq_true, decide_eq_true_eq]
  exact ⟨fun t ht => by rw [h t ht]; exact Nat.le_refl _, fun p _ => hp p⟩
end Go.AM.T

/- Contracts: what is copied, with memory of its own. -/
namespace Go.AM.T
set_option linter.unusedVariables false
set_option linter.unusedSimpArgs false
set_option maxRecDepth 100000

theorem trOk_some {ops : List RO} {tr : List Tr} (S : List Nat) (h1 : (drawPairs ops).all (fun p => S.contains p.2) = true) (h2 : ∀ t ∈ tr, t.before.length ≤ t.after.length)
    (h3 : ∀ l ∈ S, ∀ t, tr[l]? = some t → ∀ b, b < t.before.length → t.after[b]? = t.before[b]?) : trOk ops tr = true := by
  simp only [trOk, Bool.and_eq_true, List.all_eq_true, decide_eq_true_eq]
  refine ⟨h2, fun p hp => ?_⟩
  have hs := List.all_eq_true.1 h1 p hp
  unfold pairOk
  split
  · rename_i ti tl e1 e2
    split
    · rfl
    · rename_i b hb
      by_cases hlt : b < tl.before.length
      · simp [h3 _ (by simpa using hs) tl e2 b hlt]
      · simp; left; omega
  · rfl
abbrev BIG : Nat := 140737488355328
/-- A copy's place. -/
def Cloned (sh : Option Nat) (a : AV) (xs : List AV) (H : Heap) (v : AV) (H' : Heap) : Prop :=
  (a = .nils ∧ xs = [] ∧ v = .nils ∧ H' = H) ∨ (a = .data xs ∧ ∃ b X, v = .sl b 0 xs.length sh ∧ H' = H ++ X ∧ H.length ≤ b ∧ H'[b]? = some (.arr (szOf sh) 0 0 (xs.flatMap AV.cells)))
theorem clone_ok {sh : Option Nat} {bytes : Nat} {zero : List AV} {a : AV} {xs : List AV} (ha : SLike a xs) (hc : ∀ x ∈ xs, x.cells.length = szOf sh) (hl : xs.length * bytes ≤ BIG) (hx : xs.length < 9223372036854775808) (H : Heap) {Q : AV → Heap → Prop} (hQ : ∀ v H', Cloned sh a xs H v H' → Q v H') :
    getP (eqA .sl false a AV.nils) fun v1 => splitB v1 (Q AV.nils H) (sliceP sh 0 0 zero [] H fun v2 h3 => get2 (appA sh 0 bytes v2 a h3) fun v4 h5 => Q v4 h5) := by
  rcases ha with ⟨rfl, rfl⟩ | rfl
  · refine ⟨_, rfl, ?_⟩
    show Q .nils H
    exact hQ _ _ (.inl ⟨rfl, rfl, rfl, rfl⟩)
  · refine ⟨_, rfl, ?_⟩
    show sliceP sh 0 0 zero [] H fun v2 h3 => get2 (appA sh 0 bytes v2 (.data xs) h3) fun v4 h5 => Q v4 h5
    refine ⟨[], rfl, ?_⟩
    have he : elemsOf (szOf sh) (H ++ [Blk.arr (szOf sh) 0 0 []]) (.data xs) = some (xs.flatMap AV.cells, xs.length) := by
      have : xs.all (fun x => x.cells.length == szOf sh) = true := by simpa using hc
      simp [elemsOf, this]
    by_cases h0 : xs.length = 0
    · have : xs = [] := List.eq_nil_of_length_eq_zero h0
      subst this
      have e : appA sh 0 bytes (.sl H.length 0 0 sh) (.data []) (H ++ [Blk.arr (szOf sh) 0 0 []]) = some (.sl H.length 0 0 sh, H ++ [Blk.arr (szOf sh) 0 0 []]) := by
        simp [appA, he, appendA]
      show get2 _ _
      rw [e, get2_some]
      exact hQ _ _ (.inr ⟨rfl, H.length, [Blk.arr (szOf sh) 0 0 []], rfl, rfl, Nat.le_refl _, by simp⟩)
    · have e : appA sh 0 bytes (.sl H.length 0 0 sh) (.data xs) (H ++ [Blk.arr (szOf sh) 0 0 []]) = some (.sl (H.length + 1) 0 xs.length sh, H ++ [.dead] ++ [Blk.arr (szOf sh) 0 0 (xs.flatMap AV.cells)]) := by
        simp only [BIG] at hl
        simp [appA, he, appendA, h0, hl, hx]
      show get2 _ _
      rw [e, get2_some]
      exact hQ _ _ (.inr ⟨rfl, H.length + 1, [.dead, Blk.arr (szOf sh) 0 0 (xs.flatMap AV.cells)], rfl, by simp, by omega, by simp⟩)
/-! ### Values -/
abbrev argOf (y : Str × AV × Int) : AV := .agg (.str y.1 :: (y.2.1.cells ++ [I y.2.2]))
inductive IsVal : AV → Prop where
  | mk {k p : Int} {s : Str} {it fi : AV} {xs : List AV} {ys : List (Str × AV × Int)} : SLike it xs → SLike fi (ys.map argOf) → (∀ x ∈ xs, IsVal x) → (∀ y ∈ ys, IsVal y.2.1) →
      xs.length * 80 ≤ BIG → ys.length * 104 ≤ BIG → IsVal (.agg [I k, .str s, it, fi, I p])
theorem IsVal.cells {v : AV} (h : IsVal v) : v.cells.length = 5 ∧ mkv (some 5) v.cells = some v := by
  cases h; exact ⟨rfl, rfl⟩
theorem noIdsL_of {vs : List AV} (h : ∀ v ∈ vs, AV.noIds v = true) : AV.noIdsL vs = true := by
  induction vs with
  | nil => rfl
  | cons v r ih => simp [AV.noIdsL, h v (by simp), ih fun x hx => h x (by simp [hx])]
theorem of_noIdsL {vs : List AV} (h : AV.noIdsL vs = true) : ∀ v ∈ vs, AV.noIds v = true := by
  induction vs with
  | nil => intro v hv; cases hv
  | cons v r ih =>
    simp only [AV.noIdsL, Bool.and_eq_true] at h
    intro x hx
    rcases List.mem_cons.1 hx with rfl | hx
    · exact h.1
    · exact ih h.2 x hx
theorem noIds_cells {v : AV} (h : AV.noIds v = true) : ∀ c ∈ v.cells, AV.noIds c = true := by
  cases v <;> simp_all [AV.cells, AV.noIds]
  exact of_noIdsL h
theorem IsVal.noIds {v : AV} (h : IsVal v) : AV.noIds v = true := by
  induction h with
  | mk hi hf hx hy _ _ ihx ihy =>
    have h1 := noIdsL_of ihx
    have h2 : AV.noIdsL (List.map argOf _) = true := noIdsL_of (by
      intro v hv
      obtain ⟨y, hy', rfl⟩ := List.mem_map.1 hv
      simp only [argOf, AV.noIds]
      refine noIdsL_of fun c hc => ?_
      simp only [List.mem_cons, List.mem_append, List.mem_singleton] at hc
      rcases hc with rfl | hc | rfl | hc
      · rfl
      · exact noIds_cells (ihy y hy') c hc
      · rfl
      · cases hc)
    simp [AV.noIds, AV.noIdsL, hi.noIds, hf.noIds, h1, h2]
theorem chunk_cells {sh : Option Nat} : ∀ {xs : List AV}, (∀ x ∈ xs, x.cells.length = szOf sh ∧ mkv sh x.cells = some x) → chunk sh xs.length (xs.flatMap AV.cells) = some xs
  | [], _ => rfl
  | x :: r, h => by
    have ⟨h1, h2⟩ := h x (by simp)
    have ih := chunk_cells (sh := sh) (xs := r) fun y hy => h y (by simp [hy])
    have e : mkv sh (x.cells ++ r.flatMap AV.cells) = some x := by
      rw [← h2]
      cases sh with
      | none => 
        cases hx : x.cells with
        | nil => rw [hx] at h1; simp [szOf] at h1
        | cons c t => simp [mkv]
      | some n =>
        simp only [szOf, Option.getD_some] at h1
        subst h1
        simp [mkv]
    simp [chunk, e, ← h1, ih]
/-- A copy, made plain, is what was copied. -/
theorem Cloned.pub {sh : Option Nat} {a : AV} {xs : List AV} {H H' H2 : Heap} {v : AV} (h : Cloned sh a xs H v H') (hc : ∀ x ∈ xs, x.cells.length = szOf sh ∧ mkv sh x.cells = some x) (hn : AV.noIdsL xs = true) (h2 : ∀ b, H.length ≤ b → ∀ x, H'[b]? = some x → H2[b]? = some x) : Pub false H2 v a := by
  rcases h with ⟨rfl, rfl, rfl, rfl⟩ | ⟨rfl, b, X, rfl, rfl, hb, hx⟩
  · exact Pub.scalar rfl
  · have hlen : (xs.flatMap AV.cells).length = xs.length * szOf sh := by
      clear hx h2 hn
      induction xs with
      | nil => simp
      | cons x r ih => simp [ih fun y hy => hc y (by simp [hy]), (hc x (by simp)).1, Nat.succ_mul]; omega
    refine Pub.sl (cs' := xs.flatMap AV.cells) (h2 b hb _ hx) rfl (by omega) ?_ (chunk_cells hc)
    rw [List.drop_zero, ← hlen, List.take_length]
    exact PubLF.plain (noIdsL_of fun c hc' => by
      obtain ⟨x, hx, hc'⟩ := List.mem_flatMap.1 hc'
      exact noIds_cells (of_noIdsL hn x hx) c hc')
end Go.AM.T

/- Contracts: values, inputs, types, copied. -/
namespace Go.AM.T
set_option linter.unusedVariables false
set_option linter.unusedSimpArgs false
set_option maxRecDepth 100000

theorem set_same {H : Heap} {b : Nat} {x : Blk} (h : H[b]? = some x) : H.set b x = H := by
  obtain ⟨hb, rfl⟩ := List.getElem?_eq_some_iff.1 h
  exact List.set_getElem_self hb
theorem _root_.Go.AM.SLike.cell {a : AV} {xs : List AV} (h : SLike a xs) : a.isCell = true := by
  rcases h with ⟨rfl, rfl⟩ | rfl <;> rfl
theorem Cloned.cell {sh a xs H v H'} (h : Cloned sh a xs H v H') : v.isCell = true := by
  rcases h with ⟨rfl, rfl, rfl, rfl⟩ | ⟨rfl, b, X, rfl, rfl, hb, hx⟩ <;> rfl
theorem Cloned.grow {sh a xs H v H'} (h : Cloned sh a xs H v H') : ∃ X, H' = H ++ X := by
  rcases h with ⟨rfl, rfl, rfl, rfl⟩ | ⟨rfl, b, X, rfl, rfl, hb, hx⟩
  · exact ⟨[], by simp⟩
  · exact ⟨X, rfl⟩
theorem Cloned.len {sh a xs H v H'} (h : Cloned sh a xs H v H') (H2 : Heap) : lenA H2 .sl v = some (.int .i64 ↑xs.length) := by
  rcases h with ⟨rfl, rfl, rfl, rfl⟩ | ⟨rfl, b, X, rfl, rfl, hb, hx⟩ <;> rfl
theorem cell1 {v : AV} (h : v.isCell = true) : v.cells = [v] := by cases v <;> simp_all [AV.cells, AV.isCell]
theorem load_cells {H : Heap} {b off : Nat} {cs : List AV} {v : AV} (hb : H[b]? = some (.cells cs)) (h : cs[off]? = some v) : loadA none (.ptr b off) H = some v := by
  simp [loadA, hb, mkv, List.head?_drop, h]
theorem load_cells0 {H : Heap} {b n : Nat} {cs : List AV} (hb : H[b]? = some (.cells cs)) (h : cs.length = n) : loadA (some n) (.ptr b 0) H = some (.agg cs) := by
  subst h; simp [loadA, hb, mkv]
theorem store_cells {H : Heap} {b off : Nat} {cs : List AV} {v : AV} (hb : H[b]? = some (.cells cs)) (ho : off < cs.length) (hv : v.isCell = true) : storeA 1 (.ptr b off) v H = some (H.set b (.cells (cs.set off v))) := by
  simp [storeA, cell1 hv, hv, hb, ← wr1 ho, show off + 1 ≤ cs.length by omega]
theorem store_cells0 {H : Heap} {b n : Nat} {cs vs : List AV} (hb : H[b]? = some (.cells cs)) (h : cs.length = n) (h2 : vs.length = n) (hv : vs.all AV.isCell = true) : storeA n (.ptr b 0) (.agg vs) H = some (H.set b (.cells vs)) := by
  have : wr cs 0 vs = vs := by simp [wr]; omega
  simp [storeA, AV.cells, h2, hb, h, this]
  simpa using hv
theorem faddr_ptr (k b o : Nat) : faddrA k (.ptr b o) = some (.ptr b (o + k)) := rfl
theorem nil_ptr (b o : Nat) : nilA (.ptr b o) = some (.ptr b o) := rfl
/-- The i-th element of a copy: where it stands, what is read there, and that what is put back turns nothing. -/
theorem flat_at {n : Nat} : ∀ {xs : List AV}, (∀ x ∈ xs, x.cells.length = n) → ∀ {i : Nat} {x : AV}, xs[i]? = some x → ∃ A B, xs.flatMap AV.cells = A ++ x.cells ++ B ∧ A.length = i * n
  | [], _, i, x, h => by simp at h
  | y :: r, hc, 0, x, h => by
    simp at h; subst h
    exact ⟨[], r.flatMap AV.cells, by simp, by simp⟩
  | y :: r, hc, i + 1, x, h => by
    obtain ⟨A, B, h1, h2⟩ := flat_at (fun z hz => hc z (List.mem_cons_of_mem _ hz)) (i := i) (x := x) (by simpa using h)
    refine ⟨y.cells ++ A, B, by simp [h1], ?_⟩
    rw [List.length_append, h2, hc y (by simp), Nat.succ_mul]; omega
theorem Cloned.at {n : Nat} {a : AV} {xs : List AV} {H H' : Heap} {v : AV} (h : Cloned (some n) a xs H v H') (hc : ∀ x ∈ xs, x.cells.length = n) {i : Nat} {x : AV} (hx : xs[i]? = some x) :
    ∃ b A B, iaddrA (some n) v (.int .i64 ↑i) = some (.ptr b (i * n)) ∧ H.length ≤ b ∧ H'[b]? = some (.arr n 0 0 (A ++ x.cells ++ B)) ∧ A.length = i * n := by
  have hi : i < xs.length := (List.getElem?_eq_some_iff.1 hx).1
  rcases h with ⟨rfl, rfl, rfl, rfl⟩ | ⟨rfl, b, X, rfl, rfl, hb, hb2⟩
  · simp at hi
  · obtain ⟨A, B, h1, h2⟩ := flat_at hc hx
    refine ⟨b, A, B, ?_, hb, ?_, h2⟩
    · simp [iaddrA, evNat, hi, szOf]
    · rw [hb2, ← h1]; rfl
theorem wr_same {A M B : List AV} : wr (A ++ M ++ B) A.length M = A ++ M ++ B := by
  have e : (A ++ M ++ B).drop (A.length + M.length) = B := by
    rw [List.drop_append_of_le_length (by simp), show A.length + M.length = (A ++ M).length by simp, List.drop_length]; simp
  have e2 : (A ++ M ++ B).take A.length = A := by simp
  simp only [wr, e, e2]
/-- A part of an element, read and put back. -/
theorem part_load {H : Heap} {b m : Nat} {n fz tag : Nat} {A M B : List AV} {v : AV} (hb : H[b]? = some (.arr n tag fz (A ++ M ++ B))) (hv : mkv (some m) M = some v) (hm : M.length = m) : loadA (some m) (.ptr b A.length) H = some v := by
  have e2 : (A ++ M ++ B).drop A.length = M ++ B := by simp
  subst hm
  simp only [loadA, hb, e2]
  rw [← hv]; simp [mkv]
theorem part_load1 {H : Heap} {b : Nat} {n fz tag : Nat} {A B : List AV} {v : AV} (hb : H[b]? = some (.arr n tag fz (A ++ [v] ++ B))) : loadA none (.ptr b A.length) H = some v := by
  have e2 : (A ++ [v] ++ B).drop A.length = [v] ++ B := by simp
  simp only [loadA, hb, e2]; rfl
theorem part_store {H : Heap} {b m : Nat} {n tag : Nat} {A M B : List AV} {v : AV} (hb : H[b]? = some (.arr n tag 0 (A ++ M ++ B))) (hv : v.cells = M) (hm : M.length = m) (hcell : M.all AV.isCell = true) : storeA m (.ptr b A.length) v H = some H := by
  have h1 : A.length + m ≤ (A ++ M ++ B).length := by simp; omega
  subst hm
  unfold storeA
  rw [if_pos ⟨by rw [hv], by rw [hv]; exact hcell⟩]
  simp only [hb]
  rw [if_pos ⟨Nat.zero_le _, h1⟩, hv, wr_same, set_same hb]
theorem IsVal.allCell {v : AV} (h : IsVal v) : v.cells.all AV.isCell = true := by
  cases h with
  | mk hi hf _ _ _ _ => simp [AV.cells, hi.cell, hf.cell]; simp [AV.isCell]
theorem argOf_cells (y : Str × AV × Int) (h : IsVal y.2.1) : (argOf y).cells.length = 7 := by
  show (AV.str y.1 :: (y.2.1.cells ++ [I y.2.2])).length = 7
  rw [List.length_cons, List.length_append, h.cells.1]; rfl
theorem argOf_mk (y : Str × AV × Int) (h : IsVal y.2.1) : mkv (some 7) (argOf y).cells = some (argOf y) := by
  have := argOf_cells y h
  show (if 7 ≤ (argOf y).cells.length then some (AV.agg ((argOf y).cells.take 7)) else none) = some (argOf y)
  rw [if_pos (by omega), List.take_of_length_le (by omega)]; rfl
end Go.AM.T

/- Contracts: inputs and types, copied. -/
namespace Go.AM.T
set_option linter.unusedVariables false
set_option linter.unusedSimpArgs false
set_option maxRecDepth 100000

structure InD where
  n : Str
  t : Str
  has : Bool
  v : AV
  p : Int
abbrev InD.av (z : InD) : AV := .agg (.str z.n :: .str z.t :: .bool z.has :: (z.v.cells ++ [I z.p]))
def IsIns (a : AV) : Prop := ∃ zs : List InD, SLike a (zs.map InD.av) ∧ (∀ z ∈ zs, IsVal z.v) ∧ zs.length * 128 ≤ BIG
structure FieldD where
  n : Str
  args : AV
  t : Str
  p : Int
abbrev FieldD.av (f : FieldD) : AV := .agg [.str f.n, f.args, .str f.t, I f.p]
def IsFields (a : AV) : Prop := ∃ fs : List FieldD, SLike a (fs.map FieldD.av) ∧ (∀ f ∈ fs, IsIns f.args) ∧ fs.length * 64 ≤ BIG
theorem InD.cells (z : InD) (h : IsVal z.v) : z.av.cells.length = 9 := by
  show (AV.str z.n :: .str z.t :: .bool z.has :: (z.v.cells ++ [I z.p])).length = 9
  simp only [List.length_cons, List.length_append, h.cells.1]; rfl
theorem mk_cells {n : Nat} {cs : List AV} (h : cs.length = n) : mkv (some n) cs = some (.agg cs) := by
  subst h; simp [mkv]
theorem InD.noIds (z : InD) (h : IsVal z.v) : AV.noIds z.av = true := by
  simp only [AV.noIds]
  refine noIdsL_of fun c hc => ?_
  simp only [List.mem_cons, List.mem_append, List.mem_singleton] at hc
  rcases hc with rfl | rfl | rfl | hc | rfl | hc
  · rfl
  · rfl
  · rfl
  · exact noIds_cells h.noIds c hc
  · rfl
  · cases hc
theorem IsIns.noIds {a : AV} (h : IsIns a) : AV.noIds a = true := by
  obtain ⟨zs, h1, h2, h3⟩ := h
  rw [h1.noIds]
  refine noIdsL_of fun v hv => ?_
  obtain ⟨z, hz, rfl⟩ := List.mem_map.1 hv
  exact z.noIds (h2 z hz)
theorem IsIns.cell {a : AV} (h : IsIns a) : a.isCell = true := by obtain ⟨zs, h1, _⟩ := h; exact h1.cell
theorem IsFields.cell {a : AV} (h : IsFields a) : a.isCell = true := by obtain ⟨zs, h1, _⟩ := h; exact h1.cell
theorem FieldD.noIds (f : FieldD) (h : IsIns f.args) : AV.noIds f.av = true := by simp [AV.noIds, AV.noIdsL, h.noIds]
theorem IsFields.noIds {a : AV} (h : IsFields a) : AV.noIds a = true := by
  obtain ⟨zs, h1, h2, h3⟩ := h
  rw [h1.noIds]
  refine noIdsL_of fun v hv => ?_
  obtain ⟨z, hz, rfl⟩ := List.mem_map.1 hv
  exact z.noIds (h2 z hz)
structure TDef.good (d : TDef) : Prop where
  f : IsFields d.fields
  i : IsIns d.inputs
  impl : (d.impl.getD []).length ≤ 8796093022000
  mem : (d.mem.getD []).length ≤ 8796093022000
  name : Short d.name
theorem TDef.good.ok {d : TDef} (h : d.good) : d.ok := ⟨h.f.noIds, h.i.noIds, by have := h.impl; simp only [ShortL]; omega, by have := h.mem; simp only [ShortL]; omega, h.name⟩
theorem ostr_cell : ∀ o, (ostr o).isCell = true
  | none => rfl
  | some _ => rfl
end Go.AM.T

/- Contracts: the making of a table of types. -/
namespace Go.AM.T
set_option linter.unusedVariables false
set_option linter.unusedSimpArgs false
set_option maxRecDepth 100000

theorem trOk_two {ops : List RO} {tr : List Tr} (S N : List Nat) (h1 : (drawPairs ops).all (fun p => S.contains p.2 || N.contains p.1) = true) (h2 : ∀ t ∈ tr, t.before.length ≤ t.after.length)
    (h3 : ∀ l ∈ S, ∀ t, tr[l]? = some t → ∀ b, b < t.before.length → t.after[b]? = t.before[b]?) (h4 : ∀ i ∈ N, ∀ t, tr[i]? = some t → t.foot = none) : trOk ops tr = true := by
  simp only [trOk, Bool.and_eq_true, List.all_eq_true, decide_eq_true_eq]
  refine ⟨h2, fun p hp => ?_⟩
  have hs := List.all_eq_true.1 h1 p hp
  simp only [Bool.or_eq_true, List.contains_iff_mem] at hs
  unfold pairOk
  split
  · rename_i ti tl e1 e2
    split
    · rfl
    · rename_i b hb
      rcases hs with hs | hs
      · by_cases hlt : b < tl.before.length
        · simp [h3 _ hs tl e2 b hlt]
        · simp; left; omega
      · rw [h4 _ hs ti e1] at hb; cases hb
  · rfl
def fiveL : List Str := [[73, 110, 116], [70, 108, 111, 97, 116], [83, 116, 114, 105, 110, 103], [66, 111, 111, 108, 101, 97, 110], [73, 68]]
def primDef (s : Str) : TDef := ⟨1, s, none, .nils, none, .nils, 0⟩
theorem primDef_ok (s : Str) (h : Short s) : (primDef s).ok := ⟨rfl, rfl, by simp [primDef], by simp [primDef], h⟩
theorem look_none {t : Tab} {n : Str} (h : t.look n = none) : (t.findIdx? fun p => p.1 == n) = none := by
  have := look_idx n t
  cases hi : t.findIdx? fun p => p.1 == n with
  | none => rfl
  | some i => rw [hi] at this; obtain ⟨d, h1, _⟩ := this; rw [h] at h1; cases h1
theorem mapupd_new {t : Tab} {b : Nat} {H : Heap} (hb : H[b]? = some (.map t.keys t.vals)) {n : Str} {d : TDef} (h : t.look n = none) : mapupdA .str (.map b) (.str n) d.av H = some (H.set b (.map (Tab.keys (t ++ [(n, d)])) (Tab.vals (t ++ [(n, d)])))) := by
  simp only [mapupdA, AV.isKey, decide_true, if_true, hb, findK_str, look_none h, Option.map_none, Option.map_some]
  simp [Tab.keys, Tab.vals]
def step (s : Tab × List Str) (d : TDef) : Tab × List Str := if (s.1.look d.name).isSome then s else (s.1 ++ [(d.name, d)], s.2 ++ [d.name])
def fiveT : Tab := fiveL.map fun s => (s, primDef s)
def newT (l : List TDef) : Tab × List Str := l.foldl step (fiveT, [])
def ordO (l : List Str) : Option (List Str) := if l = [] then none else some l
/-- What New keeps. -/
structure HI (H : Heap) (t : Tab) (l : List Str) : Prop where
  m : H[0]? = some (.map t.keys t.vals)
  c : ∃ ov, H[1]? = some (.cells [.map 0, ov]) ∧ OutL ov H l
theorem OutL.cell {v H l} (h : OutL v H l) : v.isCell = true := by
  rcases h with ⟨rfl, _⟩ | ⟨b, rfl, _⟩ <;> rfl
theorem OutL.pub {v H l} (h : OutL v H l) : Pub false H v (ostr (ordO l)) := by
  rcases h with ⟨rfl, rfl⟩ | ⟨b, rfl, hb, h0⟩
  · exact Pub.scalar rfl
  · have : l ≠ [] := by intro e; subst e; simp at h0
    simp only [ordO, this, if_false, ostr]
    have := Pub.row (fr := false) hb (strs_scalar l)
    simpa using this
theorem HI.pub {H t l} (h : HI H t l) (ht : t.ok) : Pub false H (.ptr 1 0) (TT t (ordO l)) := by
  obtain ⟨ov, h1, h2⟩ := h.c
  refine Pub.ptr h1 (by simp) ?_
  refine .cons (Pub.map h.m (PubLF.plain t.keys_noIds) (PubLF.plain (t.vals_noIds ht))) (.cons h2.pub .nil)
theorem HI.grow {H t l} (h : HI H t l) (X : Heap) : HI (H ++ X) t l := by
  obtain ⟨ov, h1, h2⟩ := h.c
  exact ⟨getElem?_grow h.m X, ov, getElem?_grow h1 X, h2.grow X⟩
theorem HI.two {H t l} (h : HI H t l) : 2 ≤ H.length := by
  obtain ⟨ov, h1, h2⟩ := h.c
  have := (List.getElem?_eq_some_iff.1 h1).1
  omega
theorem lookup_own {t : Tab} {b : Nat} {H : Heap} (hb : H[b]? = some (.map t.keys t.vals)) (n : Str) : lookupA .str (.agg [I 0, .str [], .nils, .nils, .nils, .nils, I 0]) (.map b) (.str n) true H = some (.tup [(t.get n).av, .bool (t.look n).isSome]) := by
  have := lookup_t t n H
  simp only [lookupA, mapOf, hb] at this ⊢
  exact this
theorem set_last (H : Heap) (x y : Blk) : (H ++ [x]).set H.length y = H ++ [y] := by simp
theorem HI.put {H t l} (h : HI H t l) (n : Str) (d : TDef) : HI (H.set 0 (.map (Tab.keys (t ++ [(n, d)])) (Tab.vals (t ++ [(n, d)])))) (t ++ [(n, d)]) l := by
  have h2 := h.two
  obtain ⟨ov, h1, ho⟩ := h.c
  refine ⟨by rw [List.getElem?_set_self (by omega)], ov, by rw [List.getElem?_set_ne (by omega)]; exact h1, ?_⟩
  rcases ho with ho | ⟨b, e, hb, h0⟩
  · exact .inl ho
  · refine .inr ⟨b, e, ?_, h0⟩
    have : (0 : Nat) ≠ b := by intro e; subst e; rw [h.m] at hb; cases hb
    rw [List.getElem?_set_ne this]; exact hb
theorem OutL.ne {v : AV} {H : Heap} {l : List Str} (h : OutL v H l) {b : Nat} {x : Blk} (hb : H[b]? = some x) (hx : ∀ cs, x ≠ .arr 1 0 0 cs) : v ≠ .sl b 0 l.length none := by
  rintro rfl
  rcases h with ⟨h, _⟩ | ⟨c, h1, h2, _⟩
  · cases h
  · injection h1 with e
    subst e
    rw [hb] at h2
    injection h2 with h2
    exact hx _ h2
theorem HI.order {H H' t l} {v : AV} {s : Str} (h : HI H t l) (ho : OutL v H' (l ++ [s])) (hk : ∀ b x, b < 2 → H[b]? = some x → H'[b]? = some x) : HI (H'.set 1 (.cells [.map 0, v])) t (l ++ [s]) := by
  obtain ⟨ov, h1, h2⟩ := h.c
  have h1' := hk 1 _ (by omega) h1
  have hl : 1 < H'.length := (List.getElem?_eq_some_iff.1 h1').1
  refine ⟨by rw [List.getElem?_set_ne (by omega)]; exact hk 0 _ (by omega) h.m, v, by simp [hl], ?_⟩
  rcases ho with ho | ⟨b, e, hb, h0⟩
  · exact .inl ho
  · refine .inr ⟨b, e, ?_, h0⟩
    have : (1 : Nat) ≠ b := by intro e; subst e; rw [h1'] at hb; cases hb
    rw [List.getElem?_set_ne this]; exact hb
theorem Tab.ok_append {t : Tab} {n : Str} {d : TDef} (h : t.ok) (hd : d.ok) : Tab.ok (t ++ [(n, d)]) := by
  intro p hp
  rcases List.mem_append.1 hp with hp | hp
  · exact h p hp
  · simp at hp; subst hp; exact hd
theorem fiveT_ok : fiveT.ok := by
  intro p hp
  obtain ⟨s, hs, rfl⟩ := List.mem_map.1 hp
  refine primDef_ok s ?_
  simp [fiveL] at hs
  rcases hs with rfl | rfl | rfl | rfl | rfl <;> simp
theorem fold_take {l : List TDef} {i : Nat} {d : TDef} (h : l[i]? = some d) : (l.take (i + 1)).foldl step (fiveT, []) = step ((l.take i).foldl step (fiveT, [])) d := by
  rw [List.take_succ, h, List.foldl_append]; rfl
theorem newT_ok : ∀ (l : List TDef) (s : Tab × List Str), s.1.ok → (∀ d ∈ l, d.ok) → (l.foldl step s).1.ok ∧ (l.foldl step s).2.length ≤ s.2.length + l.length
  | [], s, hs, _ => ⟨hs, by simp⟩
  | d :: r, s, hs, hl => by
    have h1 : (step s d).1.ok := by
      unfold step
      split
      · exact hs
      · exact Tab.ok_append hs (hl d (by simp))
    have h2 : (step s d).2.length ≤ s.2.length + 1 := by
      unfold step; split <;> simp
    have := newT_ok r (step s d) h1 fun x hx => hl x (by simp [hx])
    exact ⟨this.1, by have := this.2; simp only [List.foldl_cons, List.length_cons]; omega⟩
theorem TDef.cells_all {d : TDef} (h : d.good) : ([I d.kind, .str d.name, ostr d.impl, d.fields, ostr d.mem, d.inputs, I d.pos] : List AV).all AV.isCell = true := by
  simp [ostr_cell, h.f.cell, h.i.cell]; simp [AV.isCell]
theorem get_cells_all {t : Tab} (h : ∀ p ∈ t, p.2.good ∨ ∃ s, p.2 = primDef s) (n : Str) : ([I (t.get n).kind, .str (t.get n).name, ostr (t.get n).impl, (t.get n).fields, ostr (t.get n).mem, (t.get n).inputs, I (t.get n).pos] : List AV).all AV.isCell = true := by
  unfold Tab.get Tab.look
  cases e : t.find? fun p => p.1 == n with
  | none => rfl
  | some p =>
    rcases h p (List.mem_of_find?_eq_some e) with h | ⟨s, h⟩
    · exact TDef.cells_all h
    · rw [Option.map_some, Option.getD_some, h]; rfl
def Tab.nice (t : Tab) : Prop := ∀ p ∈ t, p.2.good ∨ ∃ s, p.2 = primDef s
theorem fold_nice : ∀ (l : List TDef) (s : Tab × List Str), s.1.nice → (∀ d ∈ l, d.good) → (l.foldl step s).1.nice
  | [], s, hs, _ => hs
  | d :: r, s, hs, hl => by
    refine fold_nice r (step s d) ?_ fun x hx => hl x (by simp [hx])
    unfold step
    split
    · exact hs
    · intro p hp
      rcases List.mem_append.1 hp with hp | hp
      · exact hs p hp
      · simp at hp; subst hp; exact .inl (hl d (by simp))
theorem fiveT_nice : fiveT.nice := by
  intro p hp
  obtain ⟨s, hs, rfl⟩ := List.mem_map.1 hp
  exact .inr ⟨s, rfl⟩
theorem five_absent {i : Nat} (h : i < fiveL.length) : Tab.look ((fiveL.take i).map fun s => (s, primDef s)) fiveL[i] = none := by
  have : i = 0 ∨ i = 1 ∨ i = 2 ∨ i = 3 ∨ i = 4 := by simp [fiveL] at h; omega
  rcases this with rfl | rfl | rfl | rfl | rfl <;> rfl
end Go.AM.T
