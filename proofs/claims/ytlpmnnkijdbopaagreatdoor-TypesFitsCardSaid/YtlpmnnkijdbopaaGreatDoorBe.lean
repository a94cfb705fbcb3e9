/- What came in, as the A-machine has it. -/
import Derived.Test.YtlpmnnkijdbopaaGreatDoorAd
import Derived.SizedLaws
import Derived.ChangeArms
import Derived.DataReads
import Derived.Test.YtlpmnnkijdbopaaGreatDoorProg
import Derived.Shelf.Sort.Plain
import Derived.KernelRfl
import Derived.Test.YtlpmnnkijdbopaaGreatDoorAe
import Derived.Test.YtlpmnnkijdbopaaGreatDoorBb
import Derived.Sort.KeysCollected
import Derived.Test.YtlpmnnkijdbopaaGreatDoorBc
set_option linter.unusedSectionVars false
set_option linter.unnecessarySimpa false
set_option linter.deprecated false
set_option linter.unusedVariables false
set_option linter.unusedSimpArgs false
namespace Go.AM
set_option linter.unusedVariables false
set_option linter.unusedSimpArgs false

def ρ0 : Map := ⟨fun _ => none, fun _ => False⟩
theorem own0 (c : Nat) : ¬ Own ρ0 [] c := by
  rintro (⟨b, base, hb, _⟩ | h)
  · cases hb
  · exact h
section
variable {L : Link} {w : World} {H : Type} {enc : TypeId × Value → H}
abbrev VV (L : Link) (w : World) := VRs L w ρ0 (Own ρ0 [])
/-- What is read at type t with this fuel is told by values of this kind. -/
def OpN (L : Link) (w : World) (enc : TypeId × Value → H) (n : Nat) (t : TypeId) (G : List AV → Prop) : Prop :=
  ∀ cs d ps, DataW.trod enc L.P w 0 (fun _ => true) true n t cs = some (d, ps) → (d.weights L.P t).all (· ≤ reachBytes) = true → ∃ vs, VV L w vs cs ∧ G vs
theorem opn_slice {t e : TypeId} {k : Nat} (hu : L.P.underlying t = some (.slice e)) (hk : L.P.cellsOf e = k) {n : Nat} {G : AV → Prop} (hcell : ∀ v, G v → v.cells.length = k ∧ ∀ c ∈ v.cells, c.isCell = true)
    (h : ∀ m, m < n → OpN L w enc m e fun vs => ∃ v, v.cells = vs ∧ G v) :
    OpN L w enc n t fun vs => ∃ a xs, vs = [a] ∧ ((a = .nils ∧ xs = []) ∨ a = .data xs) ∧ (∀ x ∈ xs, G x) ∧ xs.length * L.P.bytesOf e ≤ reachBytes := by
  intro cs d ps ht hw
  rcases DataW.trod_slice hu ht with ⟨rfl, hx⟩ | ⟨a, len, cap, elems, rest, m, rfl, rfl, hx, hb, hl, hm, hlen, hel, _, _⟩
  · exact ⟨[.nils], .cons .nils .nil, .nils, [], rfl, .inl ⟨rfl, rfl⟩, by simp, by simp⟩
  · injection hx with hd _
    subst hd
    simp only [DataW.weights, hu, List.all_cons, Bool.and_eq_true, decide_eq_true_eq, List.all_append] at hw
    obtain ⟨hw1, hw2, _⟩ := hw
    have hwe : ∀ (i : Nat) (y : DataW H × List MemPlace), elems[i]? = some y → (y.1.weights L.P e).all (· ≤ reachBytes) = true := by
      intro i y hy
      have : ∀ (l : List (DataW H)), (DataW.weightsAll L.P e l).all (· ≤ reachBytes) = true → ∀ z ∈ l, (z.weights L.P e).all (· ≤ reachBytes) = true := by
        intro l
        induction l with
        | nil => intro _ z hz; cases hz
        | cons q r ih =>
          intro hq z hz
          simp only [DataW.weightsAll, List.all_append, Bool.and_eq_true] at hq
          rcases List.mem_cons.1 hz with rfl | hz
          · exact hq.1
          · exact ih hq.2 z hz
      exact this _ hw2 y.1 (List.mem_map.2 ⟨y, List.mem_of_getElem? hy, rfl⟩)
    have build : ∀ l, l ≤ len → ∃ (xs : List AV) (vals : List Value), xs.length = l ∧ vals.length = l * k ∧ VV L w (xs.flatMap AV.cells) vals ∧ (∀ x ∈ xs, G x) ∧ ∀ j, j < l * k → w.cell? (a.add j) = vals[j]? := by
      intro l
      induction l with
      | zero => intro _; exact ⟨[], [], rfl, by simp, .nil, by simp, by simp⟩
      | succ l ih =>
        intro hll
        obtain ⟨xs, vals, h1, h2, h3, h4, h5⟩ := ih (by omega)
        have he := hel l (by omega)
        have hlt : l < elems.length := by omega
        rw [List.getElem?_eq_getElem hlt, Option.bind_eq_some_iff] at he
        obtain ⟨cs', hcs, hy⟩ := he
        rw [hk] at hcs
        obtain ⟨_, hcl, hcell'⟩ := World.cells?_some hcs
        obtain ⟨vs, hv, x, rfl, hG⟩ := h m (by omega) cs' elems[l].1 elems[l].2 hy (hwe l _ (List.getElem?_eq_getElem hlt))
        refine ⟨xs ++ [x], vals ++ cs', by simp [h1], by simp [h2, hcl, Nat.succ_mul], ?_, ?_, ?_⟩
        · rw [List.flatMap_append, List.flatMap_singleton]; exact h3.append hv
        · intro y hy
          rcases List.mem_append.1 hy with hy | hy
          · exact h4 y hy
          · simp at hy; subst hy; exact hG
        · intro j hj
          by_cases hjl : j < l * k
          · rw [List.getElem?_append_left (by omega)]; exact h5 j hjl
          · rw [List.getElem?_append_right (by omega), h2]
            have hj' : j - l * k < k := by rw [Nat.succ_mul] at hj; omega
            have := hcell' (j - l * k) hj'
            rw [← this, Addr.add_add]
            congr 2; omega
    obtain ⟨xs, vals, h1, h2, h3, h4, h5⟩ := build len (Nat.le_refl _)
    subst h1
    refine ⟨[.data xs], .cons (.data h3 ?_ hl ?_ ?_) .nil, .data xs, xs, rfl, .inr rfl, h4, ?_⟩
    · intro c hc
      obtain ⟨x, hx, hc⟩ := List.mem_flatMap.1 hc
      exact (hcell x (h4 x hx)).2 c hc
    · intro j hj; exact h5 j (by omega)
    · intro _; exact own0 _
    · simp only [List.length_map] at hw1
      refine Nat.le_trans ?_ hw1
      exact Nat.mul_le_mul_right _ (by omega)
theorem opn_str {t : TypeId} (hu : L.P.underlying t = some .string) (n : Nat) : OpN L w enc n t fun vs => ∃ s, vs = [.str s] ∧ s.length ≤ reachBytes := by
  intro cs d ps ht hw
  obtain ⟨s, rfl, hx, _⟩ := DataW.trod_string hu ht
  injection hx with hd _
  subst hd
  refine ⟨[.str s.data.toList], .cons (.str s) .nil, _, rfl, ?_⟩
  simpa [DataW.weights] using hw
theorem opn_int {t : TypeId} (hu : L.P.underlying t = some (.int .i64)) (n : Nat) : OpN L w enc n t fun vs => ∃ k, vs = [.int .i64 k] := by
  intro cs d ps ht hw
  obtain ⟨k, rfl, _⟩ := DataW.trod_int hu ht
  exact ⟨[.int .i64 k], .cons (.int _ _) .nil, k, rfl⟩
theorem opn_bool {t : TypeId} (hu : L.P.underlying t = some .bool) (n : Nat) : OpN L w enc n t fun vs => ∃ b, vs = [.bool b] := by
  intro cs d ps ht hw
  obtain ⟨b, rfl, _⟩ := DataW.trod_bool hu ht
  exact ⟨[.bool b], .cons (.bool _) .nil, b, rfl⟩
/-- Of a struct: its fields one behind the other. -/
def Cut (P : Program) : List Field → Nat → Prop
  | [], _ => True
  | f :: r, off => f.offset = off ∧ Cut P r (off + P.cellsOf f.type)
def Sat : List (List AV → Prop) → List (List AV) → Prop
  | [], [] => True
  | G :: Gs, v :: vs => G v ∧ Sat Gs vs
  | _, _ => False
theorem opn_fields {n : Nat} : ∀ (fs : List Field) (Gs : List (List AV → Prop)) (off : Nat) (xs : List (DataW H × List MemPlace)) (cs : List Value), Cut L.P fs off → fs.length = Gs.length → xs.length = fs.length →
    (∀ (i : Nat) (f : Field), fs[i]? = some f → DataW.trod enc L.P w 0 (fun _ => true) true n f.type ((cs.drop f.offset).take (L.P.cellsOf f.type)) = xs[i]?) →
    (∀ (i : Nat) (f : Field) (G : List AV → Prop), fs[i]? = some f → Gs[i]? = some G → OpN L w enc n f.type G) →
    (DataW.weightsEach L.P (fs.map (·.type)) (xs.map (·.1))).all (· ≤ reachBytes) = true → (cs.drop off).length = (fs.map fun f => L.P.cellsOf f.type).sum →
    ∃ vss : List (List AV), VV L w vss.flatten (cs.drop off) ∧ Sat Gs vss
  | [], Gs, off, xs, cs, _, hg, hx, _, _, _, hlen => by
    have : Gs = [] := List.eq_nil_of_length_eq_zero hg.symm
    subst this
    have e : cs.drop off = [] := List.eq_nil_of_length_eq_zero (by simpa using hlen)
    rw [e]
    exact ⟨[], .nil, trivial⟩
  | f :: fs, [], _, _, _, _, hg, _, _, _, _, _ => by simp at hg
  | f :: fs, G :: Gs, off, [], _, _, _, hx, _, _, _, _ => by simp at hx
  | f :: fs, G :: Gs, off, x :: xs, cs, hc, hg, hx, ht, hG, hw, hlen => by
    obtain ⟨ho, hc⟩ := hc
    have h0 := ht 0 f rfl
    simp only [List.getElem?_cons_zero] at h0
    simp only [List.map_cons, DataW.weightsEach, List.all_append, Bool.and_eq_true] at hw
    obtain ⟨v, hv, hgv⟩ := hG 0 f G rfl rfl _ x.1 x.2 h0 hw.1
    simp only [List.map_cons, List.sum_cons] at hlen
    have hl : (cs.drop (off + L.P.cellsOf f.type)).length = (fs.map fun f => L.P.cellsOf f.type).sum := by
      rw [← List.drop_drop, List.length_drop]; omega
    obtain ⟨vss, h1, h2⟩ := opn_fields fs Gs (off + L.P.cellsOf f.type) xs cs hc (by simpa using hg) (by simpa using hx) (fun i f h => ht (i + 1) f h) (fun i f G h k => hG (i + 1) f G h k) hw.2 hl
    refine ⟨v :: vss, ?_, hgv, h2⟩
    rw [List.flatten_cons]
    have e : cs.drop off = (cs.drop f.offset).take (L.P.cellsOf f.type) ++ cs.drop (off + L.P.cellsOf f.type) := by
      rw [ho, ← List.drop_drop, List.take_append_drop]
    rw [e]
    exact hv.append h1
theorem opn_struct {t : TypeId} {fs : Array Field} (hu : L.P.underlying t = some (.struct fs)) (Gs : List (List AV → Prop)) (hcut : Cut L.P fs.toList 0) (hg : fs.toList.length = Gs.length) (hs : (fs.toList.map fun f => L.P.cellsOf f.type).sum = L.P.cellsOf t) {n : Nat}
    (h : ∀ m, m < n → ∀ (i : Nat) (f : Field) (G : List AV → Prop), fs.toList[i]? = some f → Gs[i]? = some G → OpN L w enc m f.type G) : OpN L w enc n t fun vs => ∃ vss : List (List AV), vs = vss.flatten ∧ Sat Gs vss := by
  intro cs d ps ht hw
  obtain ⟨xs, m, rfl, hx, hcl, hxl, hf⟩ := DataW.trod_struct hu ht
  injection hx with hd _
  subst hd
  simp only [DataW.weights, hu] at hw
  obtain ⟨vss, h1, h2⟩ := opn_fields (enc := enc) (n := m) fs.toList Gs 0 xs cs hcut hg (by simpa using hxl) (fun i f h => hf i f (by simpa using h)) (h m (by omega)) hw (by simp [hs, hcl])
  exact ⟨vss.flatten, by simpa using h1, vss, rfl, h2⟩
end
end Go.AM

/- The kit's sort of texts, laid at this program. -/
namespace Go.Proofs
open Go.Shelf
def Sk.lays190_ren : Go.Shelf.Ren :=
  {
    f := fun x =>
      match x with
      | 190 => 37
      | 125 => 56
      | 258 => 55
      | 128 => 90
      | 129 => 91
      | 302 => 81
      | 303 => 82
      | 304 => 83
      | 305 => 84
      | 306 => 85
      | 307 => 86
      | 308 => 87
      | 309 => 88
      | 310 => 89
      | 333 => 103
      | 329 => 104
      | 330 => 105
      | 334 => 106
      | 335 => 107
      | 336 => 108
      | 344 => 119
      | n => n,
    t := fun x =>
      match x with
      | 31 => 31
      | 9 => 9
      | 3 => 3
      | 46 => 85
      | 0 => 0
      | 51 => 115
      | 53 => 117
      | 4 => 4
      | 183 => 108
      | 182 => 107
      | 131 => 112
      | 5 => 5
      | 218 => 129
      | 222 => 39
      | 228 => 140
      | 229 => 134
      | n => n,
    g := fun x => x }
theorem Sk.lays190 : Lays.n190 Tryz.prog Sk.lays190_ren :=
  { mixed := by kernel_rfl,
    f125 := Eq.trans Go.Proofs.Tryz.func56 (congrArg some (Eq.refl (Go.Proofs.Body.n125 Go.Proofs.Sk.lays190_ren))),
    f128 := Eq.trans Go.Proofs.Tryz.func90 (congrArg some (Eq.refl (Go.Proofs.Body.n128 Go.Proofs.Sk.lays190_ren))),
    f129 := Eq.trans Go.Proofs.Tryz.func91 (congrArg some (Eq.refl (Go.Proofs.Body.n129 Go.Proofs.Sk.lays190_ren))),
    f190 := Eq.trans Go.Proofs.Tryz.func37 (congrArg some (Eq.refl (Go.Proofs.Body.n190 Go.Proofs.Sk.lays190_ren))),
    f258 := Eq.trans Go.Proofs.Tryz.func55 (congrArg some (Eq.refl (Go.Proofs.Body.n258 Go.Proofs.Sk.lays190_ren))),
    f302 := Eq.trans Go.Proofs.Tryz.func81 (congrArg some (Eq.refl (Go.Proofs.Body.n302 Go.Proofs.Sk.lays190_ren))),
    f303 := Eq.trans Go.Proofs.Tryz.func82 (congrArg some (Eq.refl (Go.Proofs.Body.n303 Go.Proofs.Sk.lays190_ren))),
    f304 := Eq.trans Go.Proofs.Tryz.func83 (congrArg some (Eq.refl (Go.Proofs.Body.n304 Go.Proofs.Sk.lays190_ren))),
    f305 := Eq.trans Go.Proofs.Tryz.func84 (congrArg some (Eq.refl (Go.Proofs.Body.n305 Go.Proofs.Sk.lays190_ren))),
    f306 := Eq.trans Go.Proofs.Tryz.func85 (congrArg some (Eq.refl (Go.Proofs.Body.n306 Go.Proofs.Sk.lays190_ren))),
    f307 := Eq.trans Go.Proofs.Tryz.func86 (congrArg some (Eq.refl (Go.Proofs.Body.n307 Go.Proofs.Sk.lays190_ren))),
    f308 := Eq.trans Go.Proofs.Tryz.func87 (congrArg some (Eq.refl (Go.Proofs.Body.n308 Go.Proofs.Sk.lays190_ren))),
    f309 := Eq.trans Go.Proofs.Tryz.func88 (congrArg some (Eq.refl (Go.Proofs.Body.n309 Go.Proofs.Sk.lays190_ren))),
    f310 := Eq.trans Go.Proofs.Tryz.func89 (congrArg some (Eq.refl (Go.Proofs.Body.n310 Go.Proofs.Sk.lays190_ren))),
    f329 := Eq.trans Go.Proofs.Tryz.func104 (congrArg some (Eq.refl (Go.Proofs.Body.n329 Go.Proofs.Sk.lays190_ren))),
    f330 := Eq.trans Go.Proofs.Tryz.func105 (congrArg some (Eq.refl (Go.Proofs.Body.n330 Go.Proofs.Sk.lays190_ren))),
    f333 := Eq.trans Go.Proofs.Tryz.func103 (congrArg some (Eq.refl (Go.Proofs.Body.n333 Go.Proofs.Sk.lays190_ren))),
    f334 := Eq.trans Go.Proofs.Tryz.func106 (congrArg some (Eq.refl (Go.Proofs.Body.n334 Go.Proofs.Sk.lays190_ren))),
    f335 := Eq.trans Go.Proofs.Tryz.func107 (congrArg some (Eq.refl (Go.Proofs.Body.n335 Go.Proofs.Sk.lays190_ren))),
    f336 := Eq.trans Go.Proofs.Tryz.func108 (congrArg some (Eq.refl (Go.Proofs.Body.n336 Go.Proofs.Sk.lays190_ren))),
    f344 := Eq.trans Go.Proofs.Tryz.func119 (congrArg some (Eq.refl (Go.Proofs.Body.n344 Go.Proofs.Sk.lays190_ren))),
    t0 := Go.Proofs.Tryz.underlying0, a0 := Go.Proofs.Tryz.isAgg0, z0 := Go.Proofs.Tryz.sizeOf0,
    v0 := Go.Proofs.Tryz.zeroValue0, t3 := Go.Proofs.Tryz.underlying3, a3 := Go.Proofs.Tryz.isAgg3,
    z3 := Go.Proofs.Tryz.sizeOf3, v3 := Go.Proofs.Tryz.zeroValue3, t4 := Go.Proofs.Tryz.underlying4,
    a4 := Go.Proofs.Tryz.isAgg4, z4 := Go.Proofs.Tryz.sizeOf4, v4 := Go.Proofs.Tryz.zeroValue4,
    t5 := Go.Proofs.Tryz.underlying5, a5 := Go.Proofs.Tryz.isAgg5, z5 := Go.Proofs.Tryz.sizeOf5,
    v5 := Go.Proofs.Tryz.zeroValue5, t9 := Go.Proofs.Tryz.underlying9, a9 := Go.Proofs.Tryz.isAgg9,
    z9 := Go.Proofs.Tryz.sizeOf9, v9 := Go.Proofs.Tryz.zeroValue9, t31 := Go.Proofs.Tryz.underlying31,
    a31 := Go.Proofs.Tryz.isAgg31, z31 := Go.Proofs.Tryz.sizeOf31, v31 := Go.Proofs.Tryz.zeroValue31,
    t46 := Go.Proofs.Tryz.underlying85, a46 := Go.Proofs.Tryz.isAgg85, z46 := Go.Proofs.Tryz.sizeOf85,
    v46 := Go.Proofs.Tryz.zeroValue85, t51 := Go.Proofs.Tryz.underlying115, a51 := Go.Proofs.Tryz.isAgg115,
    z51 := Go.Proofs.Tryz.sizeOf115, v51 := Go.Proofs.Tryz.zeroValue115, t53 := Go.Proofs.Tryz.underlying117,
    a53 := Go.Proofs.Tryz.isAgg117, z53 := Go.Proofs.Tryz.sizeOf117, v53 := Go.Proofs.Tryz.zeroValue117,
    t131 := Go.Proofs.Tryz.underlying112, a131 := Go.Proofs.Tryz.isAgg112, z131 := Go.Proofs.Tryz.sizeOf112,
    v131 := Go.Proofs.Tryz.zeroValue112, t182 := Go.Proofs.Tryz.underlying107, a182 := Go.Proofs.Tryz.isAgg107,
    z182 := Go.Proofs.Tryz.sizeOf107, v182 := Go.Proofs.Tryz.zeroValue107, t183 := Go.Proofs.Tryz.underlying108,
    a183 := Go.Proofs.Tryz.isAgg108, z183 := Go.Proofs.Tryz.sizeOf108, v183 := Go.Proofs.Tryz.zeroValue108,
    t218 := Go.Proofs.Tryz.underlying129, a218 := Go.Proofs.Tryz.isAgg129, z218 := Go.Proofs.Tryz.sizeOf129,
    v218 := Go.Proofs.Tryz.zeroValue129, t222 := Go.Proofs.Tryz.underlying39, a222 := Go.Proofs.Tryz.isAgg39,
    z222 := Go.Proofs.Tryz.sizeOf39, v222 := Go.Proofs.Tryz.zeroValue39, t228 := Go.Proofs.Tryz.underlying140,
    a228 := Go.Proofs.Tryz.isAgg140, z228 := Go.Proofs.Tryz.sizeOf140, v228 := Go.Proofs.Tryz.zeroValue140,
    t229 := Go.Proofs.Tryz.underlying134, a229 := Go.Proofs.Tryz.isAgg134, z229 := Go.Proofs.Tryz.sizeOf134,
    v229 := Go.Proofs.Tryz.zeroValue134 }
end Go.Proofs

/- The library's sort of texts, as the kit tells it. -/
namespace Go.AM.T
open Go.Sort Go.Proofs
set_option linter.unusedVariables false
set_option linter.unusedSimpArgs false

theorem insS_perm (x : Str) : ∀ l, (insS x l).Perm (x :: l)
  | [] => List.Perm.refl _
  | y :: r => by
    unfold insS
    split
    · exact ((insS_perm x r).cons y).trans (List.Perm.swap x y r)
    · exact List.Perm.refl _
theorem isort_perm : ∀ l, (isort l).Perm l
  | [] => List.Perm.refl _
  | x :: r => (insS_perm x (isort r)).trans ((isort_perm r).cons x)
theorem insS_le (x : Str) : ∀ l, l.Pairwise (fun a b : Str => a ≤ b) → (insS x l).Pairwise fun a b : Str => a ≤ b
  | [], _ => by simp [insS]
  | y :: r, h => by
    rw [List.pairwise_cons] at h
    unfold insS
    split
    · rename_i hlt
      rw [bytesLess_eq, decide_eq_true_eq] at hlt
      refine List.pairwise_cons.2 ⟨fun z hz => ?_, insS_le x r h.2⟩
      rcases List.mem_cons.1 ((insS_perm x r).mem_iff.1 hz) with rfl | hz
      · exact List.le_of_lt hlt
      · exact h.1 z hz
    · rename_i hn
      have hn : ¬ y < x := by simpa [bytesLess_eq] using hn
      have hxy : x ≤ y := List.not_lt.1 hn
      refine List.pairwise_cons.2 ⟨fun z hz => ?_, List.pairwise_cons.2 h⟩
      rcases List.mem_cons.1 hz with rfl | hz
      · exact hxy
      · exact List.le_trans hxy (h.1 z hz)
theorem isort_le : ∀ l, (isort l).Pairwise fun a b : Str => a ≤ b
  | [] => .nil
  | x :: r => insS_le x _ (isort_le r)
theorem isort_eq (l : List Str) : (l.mergeSort fun x y => decide (x ≤ y)) = isort l := by
  have tr : ∀ a b c : Str, decide (a ≤ b) = true → decide (b ≤ c) = true → decide (a ≤ c) = true := fun a b c h1 h2 => by simp only [decide_eq_true_eq] at *; exact List.le_trans h1 h2
  have to : ∀ a b : Str, (decide (a ≤ b) || decide (b ≤ a)) = true := fun a b => by simp only [Bool.or_eq_true, decide_eq_true_eq]; exact List.le_total a b
  refine List.Perm.eq_of_pairwise (le := fun a b : Str => a ≤ b) (fun a b _ _ h1 h2 => List.le_antisymm h1 h2) ?_ (isort_le l) ((List.mergeSort_perm l _).trans (isort_perm l).symm)
  exact (List.pairwise_mergeSort tr to l).imp fun h => by simpa using h
theorem strsOf_some : ∀ {cs : List AV} {ss : List Str}, strsOf cs = some ss → cs = strs ss
  | [], ss, h => by cases h; rfl
  | .str s :: r, ss, h => by
    simp only [strsOf] at h
    obtain ⟨q, h1, rfl⟩ := Option.map_eq_some_iff.1 h
    rw [strsOf_some h1]; rfl
  | .bool _ :: _, _, h => by cases h
  | .int _ _ :: _, _, h => by cases h
  | .nilp :: _, _, h => by cases h
  | .ptr _ _ :: _, _, h => by cases h
  | .dptr _ :: _, _, h => by cases h
  | .nils :: _, _, h => by cases h
  | .sl _ _ _ _ :: _, _, h => by cases h
  | .data _ :: _, _, h => by cases h
  | .nilm :: _, _, h => by cases h
  | .map _ :: _, _, h => by cases h
  | .dmap _ _ :: _, _, h => by cases h
  | .nilf :: _, _, h => by cases h
  | .fn _ _ :: _, _, h => by cases h
  | .nili :: _, _, h => by cases h
  | .iface _ _ :: _, _, h => by cases h
  | .agg _ :: _, _, h => by cases h
  | .tup _ :: _, _, h => by cases h
theorem VRs_strs {L : Link} {w : World} {ρ : Map} {own : Nat → Prop} : ∀ {ss : List Str} {xs : List Value}, VRs L w ρ own (strs ss) xs → xs = ss.map encStr
  | [], xs, h => by cases h; rfl
  | s :: r, xs, h => by
    cases h with
    | cons h1 h2 =>
      rw [VRs_strs h2]
      generalize hs : AV.str s = v at h1
      cases h1 <;> cases hs
      rename_i b
      simp [encStr]
theorem strs_VRs {L : Link} {w : World} {ρ : Map} {own : Nat → Prop} : ∀ (ss : List Str), VRs L w ρ own (strs ss) (ss.map encStr)
  | [] => .nil
  | s :: r => by
    refine .cons ?_ (strs_VRs r)
    have := VR.str (L := L) (w := w) (ρ := ρ) (own := own) ⟨s.toArray⟩
    simpa [encStr] using this
theorem putCells_list (ss : List Str) (off : Nat) (c : Array Value) (h : off + ss.length ≤ c.size) : (putCells encStr off ss.toArray c).toList = c.toList.take off ++ ss.map encStr ++ c.toList.drop (off + (ss.map encStr).length) := by
  apply List.ext_getElem?
  intro k
  simp only [putCells, Array.getElem?_toList, Array.getElem?_mapIdx, List.size_toArray, List.length_map]
  by_cases h1 : k < off
  · rw [List.append_assoc, List.getElem?_append_left (by simp; omega), List.getElem?_take_of_lt h1, Array.getElem?_toList]
    cases c[k]? with
    | none => rfl
    | some v => simp; intro h2; omega
  · by_cases h2 : k < off + ss.length
    · rw [List.getElem?_append_left (by simp; omega), List.getElem?_append_right (by simp; omega)]
      have hk : k < c.size := by omega
      have e : k - (c.toList.take off).length = k - off := by simp; omega
      have hk2 : k - off < ss.length := by omega
      rw [e, Array.getElem?_eq_getElem hk]
      simp [h2, hk2, show off ≤ k by omega]
    · rw [List.getElem?_append_right (by simp; omega), List.getElem?_drop]
      have e : off + ss.length + (k - (c.toList.take off ++ ss.map encStr).length) = k := by simp; omega
      rw [e, Array.getElem?_toList]
      cases c[k]? with
      | none => rfl
      | some v => simp; intro h3; omega
theorem sort_nil (H : Heap) : callF env0 100 28 [.nils] H = some (.tup [], H) := by kernel_rfl
end Go.AM.T

/- The library's sort of texts is what the A-machine takes it for. -/
namespace Go.AM.T
open Go.Sort Go.Proofs
set_option linter.unusedVariables false
set_option linter.unusedSimpArgs false

theorem ext_grow {L : Link} {w w' : World} {ρ : Map} {H : Heap} (os : Array Obj) (hos : w'.os = w.os) (ht : w'.tape = w.tape) (ho : w'.output = w.output) (hh : w'.heap = w.heap ++ os) : Ext w ρ H w' ρ H where
  os := hos
  tape := ht
  output := ho
  size := by rw [hh]; simp
  keep c hc _ := by rw [hh, Array.getElem?_append_left hc]
  shape c cs _ fr h := ⟨cs, fr, by rw [hh, Array.getElem?_append_left (Array.getElem?_eq_some_iff.1 h).1]; exact h, rfl⟩
  ext _ _ h := h
  mine _ _ h := h
  bar := rfl
  ghost _ _ h := ⟨h, rfl⟩
  len := Nat.le_refl _
  dead _ h := h
theorem HR.grow {L : Link} {w w' : World} {ρ : Map} {H : Heap} (hr : HR L w ρ H) (os : Array Obj) (hos : w'.os = w.os) (ht : w'.tape = w.tape) (ho : w'.output = w.output) (hh : w'.heap = w.heap ++ os) : HR L w' ρ H := by
  refine hr.mk' (ext_grow (L := L) os hos ht ho hh) (fun b c base hb => ?_) hr.inj fun b c base y hb hy hd => .inl ⟨?_, hb, hy⟩
  · have := hr.dom b c base hb
    rw [hh]; simp; omega
  · rw [hh, Array.getElem?_append_left (hr.dom b c base hb).2]
theorem sort_ok : ∀ args H v H', sortP args H = some (v, H') → ∀ w ρ xs, HR link w ρ H → GL link env w ρ H → VRs link w ρ (Own ρ H) args xs → CallOk link w ρ H (link.fn 28) xs.toArray v H' := by
  intro args H v H' h w ρ xs hr hg hx
  unfold sortP at h
  split at h
  · cases h
    exact callF_sound fit0 100 28 [.nils] H _ _ (sort_nil H) w ρ xs hr (fun g cs h => by cases h) hx
  · rename_i b off len
    split at h
    case h_2 => cases h
    rename_i fz cs hbx
    split at h
    case isFalse => cases h
    rename_i hc
    obtain ⟨hfz, h0, hlen, hle⟩ := hc
    obtain ⟨ss, h1, h2⟩ := Option.map_eq_some_iff.1 h
    cases h2
    have hss := strsOf_some h1
    have hsl : ss.length = len := by
      have := congrArg List.length hss
      simp at this; omega
    cases hx with
    | cons hx1 hx2 =>
      cases hx2
      cases hx1 with
      | @sl _ _ _ _ c base cap a hb hlc hcap =>
        obtain ⟨rfl, _⟩ := hcap (by omega)
        obtain ⟨full, ty, fr, hw, hlf, hvv, hfr, htag, hic⟩ := hr.blk b c base _ hb hbx
        have hcl : c < w.heap.size := (Array.getElem?_eq_some_iff.1 hw).1
        have hseg : ((((full.toList.drop base).take cs.length).drop off).take len) = ss.map encStr := by
          have := (hvv.drop off).take len
          rw [hss] at this
          exact VRs_strs this
        have hH : Holds encStr w c (base + off) ss.toArray := by
          intro j hj
          have hj : j < ss.length := by simpa using hj
          have e := congrArg (fun z => z[j]?) hseg
          simp only [List.getElem?_map] at e
          rw [List.getElem?_take_of_lt (by omega), List.getElem?_drop, List.getElem?_take_of_lt (by omega), List.getElem?_drop, Array.getElem?_toList] at e
          refine ⟨?_, ?_⟩
          · simp only [World.cell?, hw, Option.isSome_none, Bool.false_eq_true, if_false]
            rw [show base + off + j = base + (off + j) by omega, e]
            simp [hj]
          · obtain ⟨lo, hi⟩ := fr
            simp only [World.frozen?, hw]
            simp at hfr ⊢
            intro _; omega
        have hk := Any.slices_Sort_string Sk.lays190 c (base + off) cap ss w hH hcl (by omega)
        rw [isort_eq, hsl] at hk
        obtain ⟨fn, hfn, m⟩ := fit0.fn 28 c28 rfl
        refine .inr ⟨callFunc_run hfn m _, ?_⟩
        have hks : Calls link.P (link.fn 28) #[.slice (some ⟨c, base + off, none⟩) len cap] w _ := hk
        refine hks.mono ?_
        rintro e w' ⟨rfl, n, os, rfl⟩
        have hlive : live H b := live_of hbx (by simp)
        have hil := isort_length ss
        -- the row, written
        have hrow : (putCells encStr (base + off) (isort ss).toArray full).size = full.size := by simp [putCells]
        have hh1 : (putRow encStr (Sort.ahead w n) c (base + off) (isort ss).toArray).heap[c]? = some (.cells (putCells encStr (base + off) (isort ss).toArray full) ty fr) := by
          simp [putRow, mapBlock, Sort.ahead, Array.getElem?_modify, hw, onCells]
        have hother : ∀ k, k ≠ c → (putRow encStr (Sort.ahead w n) c (base + off) (isort ss).toArray).heap[k]? = w.heap[k]? := by
          intro k hk
          simp [putRow, mapBlock, Sort.ahead, Array.getElem?_modify, Ne.symm hk]
        have e1 : Ext w ρ H (putRow encStr (Sort.ahead w n) c (base + off) (isort ss).toArray) ρ (H.set b (.arr 1 0 fz (wr cs off (strs (isort ss))))) :=
          ext_set hb hlive (by simp) rfl rfl rfl (by simp [putRow, mapBlock, Sort.ahead]) hother (fun cs' ty' fr' h => by
            rw [hw] at h; injection h with h; injection h with h1 h2 h3
            subst h1; subst h2; subst h3
            exact ⟨_, _, hh1, hrow⟩)
        have hwl : (wr cs off (strs (isort ss))).length = cs.length := wr_length (by simp [hil, hsl]; omega)
        have hr1 : HR link (putRow encStr (Sort.ahead w n) c (base + off) (isort ss).toArray) ρ (H.set b (.arr 1 0 fz (wr cs off (strs (isort ss))))) := by
          refine hr.set hb hlive (by simp) e1 (by simp [putRow, mapBlock, Sort.ahead]) hother ⟨_, ty, fr, hh1, ?_, ?_, hfr, htag, wr_cell hic ?_⟩
          · rw [hwl, hrow]; exact hlf
          · rw [hwl, putCells_list _ _ _ (by rw [hil, hsl]; omega)]
            have hs := seg_write full.toList ((isort ss).map encStr) base off cs.length (by simp [hil, hsl]; omega) (by simpa using hlf)
            rw [hs]
            exact (hvv.wr (strs_VRs (isort ss)) off).ext e1
          · intro v hv
            obtain ⟨s, _, rfl⟩ := List.mem_map.1 hv
            rfl
        refine ⟨.tuple #[], ρ, rfl, e1.trans (ext_grow (L := link) os rfl rfl rfl rfl), HR.grow hr1 os rfl rfl rfl rfl, VR.tup .nil⟩
  · cases h
theorem fit : Fit link env where
  mixed := fit0.mixed
  glob _ _ h := by cases h
  prim g p h := by
    by_cases hg : g = 28
    · subst hg
      have : p = sortP := by
        have h' : (some sortP : Option _) = some p := h
        injection h' with h'; exact h'.symm
      subst this
      exact sort_ok
    · exfalso
      have : env.prim g = none := by
        show (match g with | 28 => some sortP | _ => none) = none
        split
        · exact absurd rfl hg
        · rfl
      rw [this] at h; cases h
  fn g f h := by
    have := (fits env.prim).get (j := g) (f := f) h
    rwa [Nat.zero_add] at this
end Go.AM.T

/- The types of what comes in. -/
namespace Go.AM.T
open Go.Proofs
set_option maxRecDepth 100000
set_option linter.unusedVariables false
set_option linter.unusedSimpArgs false

theorem choose_map {α : Type} {f : α → AV} {P : α → Prop} : ∀ {xs : List AV}, (∀ x ∈ xs, ∃ z, x = f z ∧ P z) → ∃ zs : List α, xs = zs.map f ∧ ∀ z ∈ zs, P z
  | [], _ => ⟨[], rfl, by simp⟩
  | x :: r, h => by
    obtain ⟨z, h1, h2⟩ := h x (by simp)
    obtain ⟨zs, h3, h4⟩ := choose_map (xs := r) fun y hy => h y (by simp [hy])
    refine ⟨z :: zs, by simp [h1, h3], ?_⟩
    intro y hy
    rcases List.mem_cons.1 hy with rfl | hy
    · exact h2
    · exact h4 y hy
theorem cz3 : Tryz.prog.cellsOf 3 = 1 := by kernel_rfl
theorem cz4 : Tryz.prog.cellsOf 4 = 1 := by kernel_rfl
theorem cz9 : Tryz.prog.cellsOf 9 = 1 := by kernel_rfl
theorem cz31 : Tryz.prog.cellsOf 31 = 1 := by kernel_rfl
theorem cz32 : Tryz.prog.cellsOf 32 = 1 := by kernel_rfl
theorem cz33 : Tryz.prog.cellsOf 33 = 1 := by kernel_rfl
theorem cz61 : Tryz.prog.cellsOf 61 = 1 := by kernel_rfl
theorem cz62 : Tryz.prog.cellsOf 62 = 1 := by kernel_rfl
theorem cz64 : Tryz.prog.cellsOf 64 = 5 := by kernel_rfl
theorem cz119 : Tryz.prog.cellsOf 119 = 7 := by kernel_rfl
theorem cz66 : Tryz.prog.cellsOf 66 = 9 := by kernel_rfl
theorem cz41 : Tryz.prog.cellsOf 41 = 4 := by kernel_rfl
theorem cz35 : Tryz.prog.cellsOf 35 = 7 := by kernel_rfl
theorem b9 : Tryz.prog.bytesOf 9 = 16 := by kernel_rfl
theorem b64 : Tryz.prog.bytesOf 64 = 80 := by kernel_rfl
theorem b119 : Tryz.prog.bytesOf 119 = 104 := by kernel_rfl
theorem b66 : Tryz.prog.bytesOf 66 = 128 := by kernel_rfl
theorem b41 : Tryz.prog.bytesOf 41 = 64 := by kernel_rfl
theorem b35 : Tryz.prog.bytesOf 35 = 128 := by kernel_rfl
section
variable {w : World} {H : Type} {enc : TypeId × Value → H}
theorem opn_strs (n : Nat) : OpN link w enc n 31 fun vs => ∃ o : Option (List Str), vs = [ostr o] ∧ (o.getD []).length ≤ 8796093022000 := by
  intro cs d ps ht hw
  obtain ⟨vs, hv, a, xs, rfl, ha, hx, hl⟩ := opn_slice (L := link) (enc := enc) (t := 31) (e := 9) (k := 1) (G := fun v => ∃ s, v = .str s ∧ True) Tryz.underlying31 cz9 (fun v ⟨s, e, _⟩ => by subst e; exact ⟨rfl, by simp [AV.cells, AV.isCell]⟩)
    (fun m _ cs d ps h1 h2 => by obtain ⟨vs, h3, s, h4, _⟩ := opn_str (L := link) (enc := enc) Tryz.underlying9 m cs d ps h1 h2; exact ⟨vs, h3, .str s, h4.symm, s, rfl, trivial⟩) cs d ps ht hw
  obtain ⟨ss, rfl, _⟩ := choose_map hx
  have hb : link.P.bytesOf 9 = 16 := b9
  rw [hb] at hl
  have hl' : ss.length ≤ 8796093022000 := by
    rw [List.length_map] at hl; unfold reachBytes at hl; omega
  rcases ha with ⟨rfl, h0⟩ | rfl
  · exact ⟨_, hv, none, rfl, by simp⟩
  · exact ⟨_, hv, some ss, rfl, hl'⟩
def GInt (vs : List AV) : Prop := ∃ k, vs = [I k]
def GStr (vs : List AV) : Prop := ∃ s, vs = [.str s] ∧ s.length ≤ reachBytes
def GBool (vs : List AV) : Prop := ∃ b, vs = [.bool b]
def GVals (vs : List AV) : Prop := ∃ a xs, vs = [a] ∧ SLike a xs ∧ (∀ x ∈ xs, IsVal x) ∧ xs.length * 80 ≤ BIG
def GArgs (vs : List AV) : Prop := ∃ (a : AV) (ys : List (Str × AV × Int)), vs = [a] ∧ SLike a (ys.map argOf) ∧ (∀ y ∈ ys, IsVal y.2.1) ∧ ys.length * 104 ≤ BIG
theorem opn_vals {n : Nat} (h : ∀ m, m < n → OpN link w enc m 64 fun vs => ∃ v, v.cells = vs ∧ IsVal v) : OpN link w enc n 61 GVals := by
  intro cs d ps ht hw
  obtain ⟨vs, hv, a, xs, rfl, ha, hx, hl⟩ := opn_slice (L := link) (enc := enc) (t := 61) (e := 64) (k := 5) (G := IsVal) Tryz.underlying61 cz64 (fun v h => ⟨h.cells.1, by simpa using h.allCell⟩) h cs d ps ht hw
  rw [show link.P.bytesOf 64 = 80 from b64] at hl
  refine ⟨_, hv, a, xs, rfl, ha, hx, ?_⟩
  unfold reachBytes at hl; simp only [BIG]; omega
theorem opn_args {n : Nat} (h : ∀ m, m < n → OpN link w enc m 64 fun vs => ∃ v, v.cells = vs ∧ IsVal v) : OpN link w enc n 62 GArgs := by
  intro cs d ps ht hw
  obtain ⟨vs, hv, a, xs, rfl, ha, hx, hl⟩ := opn_slice (L := link) (enc := enc) (t := 62) (e := 119) (k := 7) (G := fun v => ∃ z : Str × AV × Int, v = argOf z ∧ IsVal z.2.1) Tryz.underlying62 cz119
    (fun (v : AV) ⟨z, e, hz⟩ => by
      subst e
      refine ⟨argOf_cells z hz, ?_⟩
      have := hz.allCell
      intro c hc
      have hc : c ∈ (AV.str z.1 :: (z.2.1.cells ++ [I z.2.2])) := hc
      simp only [List.mem_cons, List.mem_append, List.mem_singleton] at hc
      rcases hc with rfl | hc | rfl | hc
      · rfl
      · exact List.all_eq_true.1 this c hc
      · rfl
      · cases hc)
    (fun m hm cs d ps h1 h2 => by
      obtain ⟨vs, h3, vss, rfl, h4⟩ := opn_struct (L := link) (enc := enc) (t := 119) Tryz.underlying119 [GStr, (fun vs => ∃ v, v.cells = vs ∧ IsVal v), GInt] (by simp [Cut, cz3, cz9, cz64, link]) rfl (by show (Tryz.prog.cellsOf 9 + (Tryz.prog.cellsOf 64 + (Tryz.prog.cellsOf 3 + 0))) = Tryz.prog.cellsOf 119; rw [cz9, cz64, cz3, cz119])
        (fun q hq i f G hf hG => by
          match i, hf, hG with
          | 0, hf, hG => cases hf; cases hG; exact opn_str Tryz.underlying9 q
          | 1, hf, hG => cases hf; cases hG; exact h q (by omega)
          | 2, hf, hG => cases hf; cases hG; exact opn_int Tryz.underlying3 q) cs d ps h1 h2
      match vss, h4 with
      | [_, _, _], ⟨⟨s, rfl, _⟩, ⟨v, rfl, hv⟩, ⟨p, rfl⟩, _⟩ => exact ⟨_, h3, argOf (s, v, p), by simp [argOf, AV.cells], (s, v, p), rfl, hv⟩) cs d ps ht hw
  rw [show link.P.bytesOf 119 = 104 from b119] at hl
  obtain ⟨ys, rfl, hy⟩ := choose_map hx
  refine ⟨_, hv, a, ys, rfl, ha, hy, ?_⟩
  rw [List.length_map] at hl
  unfold reachBytes at hl; simp only [BIG]; omega
theorem opn_val : ∀ n, OpN link w enc n 64 fun vs => ∃ v, v.cells = vs ∧ IsVal v := by
  intro n
  induction n using Nat.strongRecOn with
  | ind n ih =>
  intro cs d ps ht hw
  obtain ⟨vs, h3, vss, rfl, h4⟩ := opn_struct (L := link) (enc := enc) (t := 64) Tryz.underlying64 [GInt, GStr, GVals, GArgs, GInt] (by simp [Cut, cz3, cz9, cz61, cz62, link]) rfl (by show (Tryz.prog.cellsOf 3 + (Tryz.prog.cellsOf 9 + (Tryz.prog.cellsOf 61 + (Tryz.prog.cellsOf 62 + (Tryz.prog.cellsOf 3 + 0))))) = Tryz.prog.cellsOf 64; rw [cz9, cz64, cz3, cz61, cz62])
    (fun q hq i f G hf hG => by
      match i, hf, hG with
      | 0, hf, hG => cases hf; cases hG; exact opn_int Tryz.underlying3 q
      | 1, hf, hG => cases hf; cases hG; exact opn_str Tryz.underlying9 q
      | 2, hf, hG => cases hf; cases hG; exact opn_vals fun m hm => ih m (by omega)
      | 3, hf, hG => cases hf; cases hG; exact opn_args fun m hm => ih m (by omega)
      | 4, hf, hG => cases hf; cases hG; exact opn_int Tryz.underlying3 q) cs d ps ht hw
  match vss, h4 with
  | [_, _, _, _, _], ⟨⟨k, rfl⟩, ⟨s, rfl, _⟩, ⟨it, xs, rfl, hi, hx, bx⟩, ⟨fi, ys, rfl, hf, hy, by_⟩, ⟨p, rfl⟩, _⟩ => exact ⟨_, h3, .agg [I k, .str s, it, fi, I p], rfl, .mk hi hf hx hy bx by_⟩
def GIns (vs : List AV) : Prop := ∃ a, vs = [a] ∧ IsIns a
theorem opn_ins (n : Nat) : OpN link w enc n 33 GIns := by
  intro cs d ps ht hw
  obtain ⟨vs, hv, a, xs, rfl, ha, hx, hl⟩ := opn_slice (L := link) (enc := enc) (t := 33) (e := 66) (k := 9) (G := fun v => ∃ z : InD, v = z.av ∧ IsVal z.v) Tryz.underlying33 cz66
    (fun (v : AV) ⟨z, e, hz⟩ => by
      subst e
      refine ⟨z.cells hz, ?_⟩
      have := hz.allCell
      intro c hc
      have hc : c ∈ (AV.str z.n :: .str z.t :: .bool z.has :: (z.v.cells ++ [I z.p])) := hc
      simp only [List.mem_cons, List.mem_append, List.mem_singleton] at hc
      rcases hc with rfl | rfl | rfl | hc | rfl | hc
      · rfl
      · rfl
      · rfl
      · exact List.all_eq_true.1 this c hc
      · rfl
      · cases hc)
    (fun m hm cs d ps h1 h2 => by
      obtain ⟨vs, h3, vss, rfl, h4⟩ := opn_struct (L := link) (enc := enc) (t := 66) Tryz.underlying66 [GStr, GStr, GBool, (fun vs => ∃ v, v.cells = vs ∧ IsVal v), GInt] (by simp [Cut, cz3, cz4, cz9, cz64, link]) rfl (by show (Tryz.prog.cellsOf 9 + (Tryz.prog.cellsOf 9 + (Tryz.prog.cellsOf 4 + (Tryz.prog.cellsOf 64 + (Tryz.prog.cellsOf 3 + 0))))) = Tryz.prog.cellsOf 66; rw [cz9, cz64, cz3, cz4, cz66])
        (fun q hq i f G hf hG => by
          match i, hf, hG with
          | 0, hf, hG => cases hf; cases hG; exact opn_str Tryz.underlying9 q
          | 1, hf, hG => cases hf; cases hG; exact opn_str Tryz.underlying9 q
          | 2, hf, hG => cases hf; cases hG; exact opn_bool Tryz.underlying4 q
          | 3, hf, hG => cases hf; cases hG; exact opn_val q
          | 4, hf, hG => cases hf; cases hG; exact opn_int Tryz.underlying3 q) cs d ps h1 h2
      match vss, h4 with
      | [_, _, _, _, _], ⟨⟨s, rfl, _⟩, ⟨t, rfl, _⟩, ⟨b, rfl⟩, ⟨v, rfl, hv⟩, ⟨p, rfl⟩, _⟩ => exact ⟨_, h3, InD.av ⟨s, t, b, v, p⟩, by simp [InD.av, AV.cells], ⟨s, t, b, v, p⟩, rfl, hv⟩) cs d ps ht hw
  rw [show link.P.bytesOf 66 = 128 from b66] at hl
  obtain ⟨ys, rfl, hy⟩ := choose_map hx
  refine ⟨_, hv, a, rfl, ys, ha, hy, ?_⟩
  rw [List.length_map] at hl
  unfold reachBytes at hl; simp only [BIG]; omega
def GFields (vs : List AV) : Prop := ∃ a, vs = [a] ∧ IsFields a
theorem opn_flds (n : Nat) : OpN link w enc n 32 GFields := by
  intro cs d ps ht hw
  obtain ⟨vs, hv, a, xs, rfl, ha, hx, hl⟩ := opn_slice (L := link) (enc := enc) (t := 32) (e := 41) (k := 4) (G := fun v => ∃ z : FieldD, v = z.av ∧ IsIns z.args) Tryz.underlying32 cz41
    (fun (v : AV) ⟨z, e, hz⟩ => by
      subst e
      refine ⟨rfl, ?_⟩
      intro c hc
      have hc : c ∈ [AV.str z.n, z.args, .str z.t, I z.p] := hc
      simp only [List.mem_cons] at hc
      rcases hc with rfl | rfl | rfl | rfl | hc
      · rfl
      · exact hz.cell
      · rfl
      · rfl
      · cases hc)
    (fun m hm cs d ps h1 h2 => by
      obtain ⟨vs, h3, vss, rfl, h4⟩ := opn_struct (L := link) (enc := enc) (t := 41) Tryz.underlying41 [GStr, GIns, GStr, GInt] (by simp [Cut, cz3, cz9, cz33, link]) rfl (by show (Tryz.prog.cellsOf 9 + (Tryz.prog.cellsOf 33 + (Tryz.prog.cellsOf 9 + (Tryz.prog.cellsOf 3 + 0)))) = Tryz.prog.cellsOf 41; rw [cz9, cz33, cz3, cz41])
        (fun q hq i f G hf hG => by
          match i, hf, hG with
          | 0, hf, hG => cases hf; cases hG; exact opn_str Tryz.underlying9 q
          | 1, hf, hG => cases hf; cases hG; exact opn_ins q
          | 2, hf, hG => cases hf; cases hG; exact opn_str Tryz.underlying9 q
          | 3, hf, hG => cases hf; cases hG; exact opn_int Tryz.underlying3 q) cs d ps h1 h2
      match vss, h4 with
      | [_, _, _, _], ⟨⟨s, rfl, _⟩, ⟨t, rfl, ht⟩, ⟨b, rfl, _⟩, ⟨p, rfl⟩, _⟩ => exact ⟨_, h3, FieldD.av ⟨s, t, b, p⟩, rfl, ⟨s, t, b, p⟩, rfl, ht⟩) cs d ps ht hw
  rw [show link.P.bytesOf 41 = 64 from b41] at hl
  obtain ⟨ys, rfl, hy⟩ := choose_map hx
  refine ⟨_, hv, a, rfl, ys, ha, hy, ?_⟩
  rw [List.length_map] at hl
  unfold reachBytes at hl; simp only [BIG]; omega
def GOstr (vs : List AV) : Prop := ∃ o : Option (List Str), vs = [ostr o] ∧ (o.getD []).length ≤ 8796093022000
theorem opn_types (n : Nat) : OpN link w enc n 22 fun vs => ∃ (a : AV) (l : List TDef), vs = [a] ∧ SLike a (l.map TDef.av) ∧ (∀ d ∈ l, d.good) ∧ l.length ≤ 8796093022000 ∧ l.length * 128 + 4096 ≤ BIG := by
  intro cs d ps ht hw
  obtain ⟨vs, hv, a, xs, rfl, ha, hx, hl⟩ := opn_slice (L := link) (enc := enc) (t := 22) (e := 35) (k := 7) (G := fun v => ∃ z : TDef, v = z.av ∧ z.good) Tryz.underlying22 cz35
    (fun (v : AV) ⟨z, e, hz⟩ => by
      subst e
      refine ⟨rfl, ?_⟩
      intro c hc
      have hc : c ∈ [I z.kind, .str z.name, ostr z.impl, z.fields, ostr z.mem, z.inputs, I z.pos] := hc
      simp only [List.mem_cons] at hc
      rcases hc with rfl | rfl | rfl | rfl | rfl | rfl | rfl | hc
      · rfl
      · rfl
      · exact ostr_cell _
      · exact hz.f.cell
      · exact ostr_cell _
      · exact hz.i.cell
      · rfl
      · cases hc)
    (fun m hm cs d ps h1 h2 => by
      obtain ⟨vs, h3, vss, rfl, h4⟩ := opn_struct (L := link) (enc := enc) (t := 35) Tryz.underlying35 [GInt, GStr, GOstr, GFields, GOstr, GIns, GInt] (by simp [Cut, cz3, cz9, cz31, cz32, cz33, link]) rfl (by show (Tryz.prog.cellsOf 3 + (Tryz.prog.cellsOf 9 + (Tryz.prog.cellsOf 31 + (Tryz.prog.cellsOf 32 + (Tryz.prog.cellsOf 31 + (Tryz.prog.cellsOf 33 + (Tryz.prog.cellsOf 3 + 0))))))) = Tryz.prog.cellsOf 35; rw [cz9, cz33, cz32, cz31, cz3, cz35])
        (fun q hq i f G hf hG => by
          match i, hf, hG with
          | 0, hf, hG => cases hf; cases hG; exact opn_int Tryz.underlying3 q
          | 1, hf, hG => cases hf; cases hG; exact opn_str Tryz.underlying9 q
          | 2, hf, hG => cases hf; cases hG; exact opn_strs q
          | 3, hf, hG => cases hf; cases hG; exact opn_flds q
          | 4, hf, hG => cases hf; cases hG; exact opn_strs q
          | 5, hf, hG => cases hf; cases hG; exact opn_ins q
          | 6, hf, hG => cases hf; cases hG; exact opn_int Tryz.underlying3 q) cs d ps h1 h2
      match vss, h4 with
      | [_, _, _, _, _, _, _], ⟨⟨k, rfl⟩, ⟨s, rfl, hs⟩, ⟨im, rfl, hi⟩, ⟨fi, rfl, hf⟩, ⟨me, rfl, hm⟩, ⟨inp, rfl, hin⟩, ⟨p, rfl⟩, _⟩ =>
        exact ⟨_, h3, TDef.av ⟨k, s, im, fi, me, inp, p⟩, rfl, ⟨k, s, im, fi, me, inp, p⟩, rfl, ⟨hf, hin, hi, hm, by unfold reachBytes at hs; simp only [Short]; omega⟩⟩) cs d ps ht hw
  rw [show link.P.bytesOf 35 = 128 from b35] at hl
  obtain ⟨ys, rfl, hy⟩ := choose_map hx
  refine ⟨_, hv, a, ys, rfl, ha, hy, ?_⟩
  rw [List.length_map] at hl
  unfold reachBytes at hl; simp only [BIG]; omega
end
end Go.AM.T
