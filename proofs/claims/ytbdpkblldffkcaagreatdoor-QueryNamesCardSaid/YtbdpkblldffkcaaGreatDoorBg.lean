/- What came in, as the A-machine has it. -/
import Derived.Test.YtbdpkblldffkcaaGreatDoorAd
import Derived.SizedLaws
import Derived.ChangeArms
import Derived.DataReads
import Derived.Test.YtbdpkblldffkcaaGreatDoorBc
import Derived.Test.YtbdpkblldffkcaaGreatDoorBf
set_option linter.unusedSectionVars false
set_option linter.unnecessarySimpa false
set_option linter.deprecated false
set_option linter.unusedVariables false
set_option linter.unusedSimpArgs false
namespace Go.AM
set_option linter.unusedVariables false
set_option linter.unusedSimpArgs false

def ρ0 : Map := ⟨fun _ => none, fun _ => False⟩
theorem own0 (c : Nat) : ¬ Own ρ0 [] c := by
  rintro (⟨b, base, hb, _⟩ | h)
  · cases hb
  · exact h
section
variable {L : Link} {w : World} {H : Type} {enc : TypeId × Value → H}
abbrev VV (L : Link) (w : World) := VRs L w ρ0 (Own ρ0 [])
/-- What is read at type t with this fuel is told by values of this kind. -/
def OpN (L : Link) (w : World) (enc : TypeId × Value → H) (n : Nat) (t : TypeId) (G : List AV → Prop) : Prop :=
  ∀ cs d ps, DataW.trod enc L.P w 0 (fun _ => true) true n t cs = some (d, ps) → (d.weights L.P t).all (· ≤ reachBytes) = true → ∃ vs, VV L w vs cs ∧ G vs
theorem opn_slice {t e : TypeId} {k : Nat} (hu : L.P.underlying t = some (.slice e)) (hk : L.P.cellsOf e = k) {n : Nat} {G : AV → Prop} (hcell : ∀ v, G v → v.cells.length = k ∧ ∀ c ∈ v.cells, c.isCell = true)
    (h : ∀ m, m < n → OpN L w enc m e fun vs => ∃ v, v.cells = vs ∧ G v) :
    OpN L w enc n t fun vs => ∃ a xs, vs = [a] ∧ ((a = .nils ∧ xs = []) ∨ a = .data xs) ∧ (∀ x ∈ xs, G x) ∧ xs.length * L.P.bytesOf e ≤ reachBytes := by
  intro cs d ps ht hw
  rcases DataW.trod_slice hu ht with ⟨rfl, hx⟩ | ⟨a, len, cap, elems, rest, m, rfl, rfl, hx, hb, hl, hm, hlen, hel, _, _⟩
  · exact ⟨[.nils], .cons .nils .nil, .nils, [], rfl, .inl ⟨rfl, rfl⟩, by simp, by simp⟩
  · injection hx with hd _
    subst hd
    simp only [DataW.weights, hu, List.all_cons, Bool.and_eq_true, decide_eq_true_eq, List.all_append] at hw
    obtain ⟨hw1, hw2, _⟩ := hw
    have hwe : ∀ (i : Nat) (y : DataW H × List MemPlace), elems[i]? = some y → (y.1.weights L.P e).all (· ≤ reachBytes) = true := by
      intro i y hy
      have : ∀ (l : List (DataW H)), (DataW.weightsAll L.P e l).all (· ≤ reachBytes) = true → ∀ z ∈ l, (z.weights L.P e).all (· ≤ reachBytes) = true := by
        intro l
        induction l with
        | nil => intro _ z hz; cases hz
        | cons q r ih =>
          intro hq z hz
          simp only [DataW.weightsAll, List.all_append, Bool.and_eq_true] at hq
          rcases List.mem_cons.1 hz with rfl | hz
          · exact hq.1
          · exact ih hq.2 z hz
      exact this _ hw2 y.1 (List.mem_map.2 ⟨y, List.mem_of_getElem? hy, rfl⟩)
    have build : ∀ l, l ≤ len → ∃ (xs : List AV) (vals : List Value), xs.length = l ∧ vals.length = l * k ∧ VV L w (xs.flatMap AV.cells) vals ∧ (∀ x ∈ xs, G x) ∧ ∀ j, j < l * k → w.cell? (a.add j) = vals[j]? := by
      intro l
      induction l with
      | zero => intro _; exact ⟨[], [], rfl, by simp, .nil, by simp, by simp⟩
      | succ l ih =>
        intro hll
        obtain ⟨xs, vals, h1, h2, h3, h4, h5⟩ := ih (by omega)
        have he := hel l (by omega)
        have hlt : l < elems.length := by omega
        rw [List.getElem?_eq_getElem hlt, Option.bind_eq_some_iff] at he
        obtain ⟨cs', hcs, hy⟩ := he
        rw [hk] at hcs
        obtain ⟨_, hcl, hcell'⟩ := World.cells?_some hcs
        obtain ⟨vs, hv, x, rfl, hG⟩ := h m (by omega) cs' elems[l].1 elems[l].2 hy (hwe l _ (List.getElem?_eq_getElem hlt))
        refine ⟨xs ++ [x], vals ++ cs', by simp [h1], by simp [h2, hcl, Nat.succ_mul], ?_, ?_, ?_⟩
        · rw [List.flatMap_append, List.flatMap_singleton]; exact h3.append hv
        · intro y hy
          rcases List.mem_append.1 hy with hy | hy
          · exact h4 y hy
          · simp at hy; subst hy; exact hG
        · intro j hj
          by_cases hjl : j < l * k
          · rw [List.getElem?_append_left (by omega)]; exact h5 j hjl
          · rw [List.getElem?_append_right (by omega), h2]
            have hj' : j - l * k < k := by rw [Nat.succ_mul] at hj; omega
            have := hcell' (j - l * k) hj'
            rw [← this, Addr.add_add]
            congr 2; omega
    obtain ⟨xs, vals, h1, h2, h3, h4, h5⟩ := build len (Nat.le_refl _)
    subst h1
    refine ⟨[.data xs], .cons (.data h3 ?_ hl ?_ ?_) .nil, .data xs, xs, rfl, .inr rfl, h4, ?_⟩
    · intro c hc
      obtain ⟨x, hx, hc⟩ := List.mem_flatMap.1 hc
      exact (hcell x (h4 x hx)).2 c hc
    · intro j hj; exact h5 j (by omega)
    · intro _; exact own0 _
    · simp only [List.length_map] at hw1
      refine Nat.le_trans ?_ hw1
      exact Nat.mul_le_mul_right _ (by omega)
theorem opn_str {t : TypeId} (hu : L.P.underlying t = some .string) (n : Nat) : OpN L w enc n t fun vs => ∃ s, vs = [.str s] ∧ s.length ≤ reachBytes := by
  intro cs d ps ht hw
  obtain ⟨s, rfl, hx, _⟩ := DataW.trod_string hu ht
  injection hx with hd _
  subst hd
  refine ⟨[.str s.data.toList], .cons (.str s) .nil, _, rfl, ?_⟩
  simpa [DataW.weights] using hw
theorem opn_int {t : TypeId} (hu : L.P.underlying t = some (.int .i64)) (n : Nat) : OpN L w enc n t fun vs => ∃ k, vs = [.int .i64 k] := by
  intro cs d ps ht hw
  obtain ⟨k, rfl, _⟩ := DataW.trod_int hu ht
  exact ⟨[.int .i64 k], .cons (.int _ _) .nil, k, rfl⟩
theorem opn_bool {t : TypeId} (hu : L.P.underlying t = some .bool) (n : Nat) : OpN L w enc n t fun vs => ∃ b, vs = [.bool b] := by
  intro cs d ps ht hw
  obtain ⟨b, rfl, _⟩ := DataW.trod_bool hu ht
  exact ⟨[.bool b], .cons (.bool _) .nil, b, rfl⟩
/-- Of a struct: its fields one behind the other. -/
def Cut (P : Program) : List Field → Nat → Prop
  | [], _ => True
  | f :: r, off => f.offset = off ∧ Cut P r (off + P.cellsOf f.type)
def Sat : List (List AV → Prop) → List (List AV) → Prop
  | [], [] => True
  | G :: Gs, v :: vs => G v ∧ Sat Gs vs
  | _, _ => False
theorem opn_fields {n : Nat} : ∀ (fs : List Field) (Gs : List (List AV → Prop)) (off : Nat) (xs : List (DataW H × List MemPlace)) (cs : List Value), Cut L.P fs off → fs.length = Gs.length → xs.length = fs.length →
    (∀ (i : Nat) (f : Field), fs[i]? = some f → DataW.trod enc L.P w 0 (fun _ => true) true n f.type ((cs.drop f.offset).take (L.P.cellsOf f.type)) = xs[i]?) →
    (∀ (i : Nat) (f : Field) (G : List AV → Prop), fs[i]? = some f → Gs[i]? = some G → OpN L w enc n f.type G) →
    (DataW.weightsEach L.P (fs.map (·.type)) (xs.map (·.1))).all (· ≤ reachBytes) = true → (cs.drop off).length = (fs.map fun f => L.P.cellsOf f.type).sum →
    ∃ vss : List (List AV), VV L w vss.flatten (cs.drop off) ∧ Sat Gs vss
  | [], Gs, off, xs, cs, _, hg, hx, _, _, _, hlen => by
    have : Gs = [] := List.eq_nil_of_length_eq_zero hg.symm
    subst this
    have e : cs.drop off = [] := List.eq_nil_of_length_eq_zero (by simpa using hlen)
    rw [e]
    exact ⟨[], .nil, trivial⟩
  | f :: fs, [], _, _, _, _, hg, _, _, _, _, _ => by simp at hg
  | f :: fs, G :: Gs, off, [], _, _, _, hx, _, _, _, _ => by simp at hx
  | f :: fs, G :: Gs, off, x :: xs, cs, hc, hg, hx, ht, hG, hw, hlen => by
    obtain ⟨ho, hc⟩ := hc
    have h0 := ht 0 f rfl
    simp only [List.getElem?_cons_zero] at h0
    simp only [List.map_cons, DataW.weightsEach, List.all_append, Bool.and_eq_true] at hw
    obtain ⟨v, hv, hgv⟩ := hG 0 f G rfl rfl _ x.1 x.2 h0 hw.1
    simp only [List.map_cons, List.sum_cons] at hlen
    have hl : (cs.drop (off + L.P.cellsOf f.type)).length = (fs.map fun f => L.P.cellsOf f.type).sum := by
      rw [← List.drop_drop, List.length_drop]; omega
    obtain ⟨vss, h1, h2⟩ := opn_fields fs Gs (off + L.P.cellsOf f.type) xs cs hc (by simpa using hg) (by simpa using hx) (fun i f h => ht (i + 1) f h) (fun i f G h k => hG (i + 1) f G h k) hw.2 hl
    refine ⟨v :: vss, ?_, hgv, h2⟩
    rw [List.flatten_cons]
    have e : cs.drop off = (cs.drop f.offset).take (L.P.cellsOf f.type) ++ cs.drop (off + L.P.cellsOf f.type) := by
      rw [ho, ← List.drop_drop, List.take_append_drop]
    rw [e]
    exact hv.append h1
theorem opn_struct {t : TypeId} {fs : Array Field} (hu : L.P.underlying t = some (.struct fs)) (Gs : List (List AV → Prop)) (hcut : Cut L.P fs.toList 0) (hg : fs.toList.length = Gs.length) (hs : (fs.toList.map fun f => L.P.cellsOf f.type).sum = L.P.cellsOf t) {n : Nat}
    (h : ∀ m, m < n → ∀ (i : Nat) (f : Field) (G : List AV → Prop), fs.toList[i]? = some f → Gs[i]? = some G → OpN L w enc m f.type G) : OpN L w enc n t fun vs => ∃ vss : List (List AV), vs = vss.flatten ∧ Sat Gs vss := by
  intro cs d ps ht hw
  obtain ⟨xs, m, rfl, hx, hcl, hxl, hf⟩ := DataW.trod_struct hu ht
  injection hx with hd _
  subst hd
  simp only [DataW.weights, hu] at hw
  obtain ⟨vss, h1, h2⟩ := opn_fields (enc := enc) (n := m) fs.toList Gs 0 xs cs hcut hg (by simpa using hxl) (fun i f h => hf i f (by simpa using h)) (h m (by omega)) hw (by simp [hs, hcl])
  exact ⟨vss.flatten, by simpa using h1, vss, rfl, h2⟩
end
end Go.AM

/- What comes in: a document. Printed by gdoc.py. -/
namespace Go.AM.T
open Go.Proofs
set_option maxRecDepth 100000
set_option linter.unusedVariables false
set_option linter.unusedSimpArgs false
theorem choose_map {α : Type} {f : α → AV} {P : α → Prop} : ∀ {xs : List AV}, (∀ x ∈ xs, ∃ z, x = f z ∧ P z) → ∃ zs : List α, xs = zs.map f ∧ ∀ z ∈ zs, P z
  | [], _ => ⟨[], rfl, by simp⟩
  | x :: r, h => by
    obtain ⟨z, h1, h2⟩ := h x (by simp)
    obtain ⟨zs, h3, h4⟩ := choose_map (xs := r) fun y hy => h y (by simp [hy])
    refine ⟨z :: zs, by simp [h1, h3], ?_⟩
    intro y hy
    rcases List.mem_cons.1 hy with rfl | hy
    · exact h2
    · exact h4 y hy
theorem cz3 : Tryz.prog.cellsOf 3 = 1 := by kernel_rfl
theorem cz4 : Tryz.prog.cellsOf 4 = 1 := by kernel_rfl
theorem cz9 : Tryz.prog.cellsOf 9 = 1 := by kernel_rfl
theorem cz45 : Tryz.prog.cellsOf 45 = 1 := by kernel_rfl
theorem cz39 : Tryz.prog.cellsOf 39 = 1 := by kernel_rfl
theorem cz30 : Tryz.prog.cellsOf 30 = 1 := by kernel_rfl
theorem cz31 : Tryz.prog.cellsOf 31 = 1 := by kernel_rfl
theorem cz29 : Tryz.prog.cellsOf 29 = 1 := by kernel_rfl
theorem cz22 : Tryz.prog.cellsOf 22 = 1 := by kernel_rfl
theorem cz23 : Tryz.prog.cellsOf 23 = 1 := by kernel_rfl
theorem cz47 : Tryz.prog.cellsOf 47 = 5 := by kernel_rfl
theorem cz85 : Tryz.prog.cellsOf 85 = 7 := by kernel_rfl
theorem cz68 : Tryz.prog.cellsOf 68 = 3 := by kernel_rfl
theorem cz41 : Tryz.prog.cellsOf 41 = 7 := by kernel_rfl
theorem cz49 : Tryz.prog.cellsOf 49 = 9 := by kernel_rfl
theorem cz33 : Tryz.prog.cellsOf 33 = 6 := by kernel_rfl
theorem cz52 : Tryz.prog.cellsOf 52 = 5 := by kernel_rfl
theorem cz25 : Tryz.prog.cellsOf 25 = 2 := by kernel_rfl
theorem b47 : Tryz.prog.bytesOf 47 = 80 := by kernel_rfl
theorem b85 : Tryz.prog.bytesOf 85 = 104 := by kernel_rfl
theorem b68 : Tryz.prog.bytesOf 68 = 48 := by kernel_rfl
theorem b41 : Tryz.prog.bytesOf 41 = 120 := by kernel_rfl
theorem b49 : Tryz.prog.bytesOf 49 = 128 := by kernel_rfl
theorem b33 : Tryz.prog.bytesOf 33 = 104 := by kernel_rfl
theorem b52 : Tryz.prog.bytesOf 52 = 88 := by kernel_rfl
section
variable {w : World} {H : Type} {enc : TypeId × Value → H}
def GInt (vs : List AV) : Prop := ∃ k, vs = [I k]
def GStr (vs : List AV) : Prop := ∃ s, vs = [.str s] ∧ s.length ≤ reachBytes
def GBool (vs : List AV) : Prop := ∃ b, vs = [.bool b]
def GVals (vs : List AV) : Prop := ∃ a xs, vs = [a] ∧ SLike a xs ∧ (∀ x ∈ xs, IsVal x) ∧ xs.length * 80 ≤ BIG
def GArgs (vs : List AV) : Prop := ∃ (a : AV) (ys : List (Str × AV × Int)), vs = [a] ∧ SLike a (ys.map argOf) ∧ (∀ y ∈ ys, IsVal y.2.1) ∧ ys.length * 104 ≤ BIG
theorem opn_vals {n : Nat} (h : ∀ m, m < n → OpN link w enc m 47 fun vs => ∃ v, v.cells = vs ∧ IsVal v) : OpN link w enc n 45 GVals := by
  intro cs d ps ht hw
  obtain ⟨vs, hv, a, xs, rfl, ha, hx, hl⟩ := opn_slice (L := link) (enc := enc) (t := 45) (e := 47) (k := 5) (G := IsVal) Tryz.underlying45 cz47 (fun v h => ⟨h.cells.1, by simpa using h.allCell⟩) h cs d ps ht hw
  rw [show link.P.bytesOf 47 = 80 from b47] at hl
  refine ⟨_, hv, a, xs, rfl, ha, hx, ?_⟩
  unfold reachBytes at hl; simp only [BIG]; omega
theorem opn_args {n : Nat} (h : ∀ m, m < n → OpN link w enc m 47 fun vs => ∃ v, v.cells = vs ∧ IsVal v) : OpN link w enc n 39 GArgs := by
  intro cs d ps ht hw
  obtain ⟨vs, hv, a, xs, rfl, ha, hx, hl⟩ := opn_slice (L := link) (enc := enc) (t := 39) (e := 85) (k := 7) (G := fun v => ∃ z : Str × AV × Int, v = argOf z ∧ IsVal z.2.1) Tryz.underlying39 cz85
    (fun (v : AV) ⟨z, e, hz⟩ => by
      subst e
      refine ⟨argOf_cells z hz, ?_⟩
      have := hz.allCell
      intro c hc
      have hc : c ∈ (AV.str z.1 :: (z.2.1.cells ++ [I z.2.2])) := hc
      simp only [List.mem_cons, List.mem_append, List.mem_singleton] at hc
      rcases hc with rfl | hc | rfl | hc
      · rfl
      · exact List.all_eq_true.1 this c hc
      · rfl
      · cases hc)
    (fun m hm cs d ps h1 h2 => by
      obtain ⟨vs, h3, vss, rfl, h4⟩ := opn_struct (L := link) (enc := enc) (t := 85) Tryz.underlying85 [GStr, (fun vs => ∃ v, v.cells = vs ∧ IsVal v), GInt] (by simp [Cut, cz3, cz9, cz47, link]) rfl (by show (Tryz.prog.cellsOf 9 + (Tryz.prog.cellsOf 47 + (Tryz.prog.cellsOf 3 + 0))) = Tryz.prog.cellsOf 85; rw [cz9, cz47, cz3, cz85])
        (fun q hq i f G hf hG => by
          match i, hf, hG with
          | 0, hf, hG => cases hf; cases hG; exact opn_str Tryz.underlying9 q
          | 1, hf, hG => cases hf; cases hG; exact h q (by omega)
          | 2, hf, hG => cases hf; cases hG; exact opn_int Tryz.underlying3 q) cs d ps h1 h2
      match vss, h4 with
      | [_, _, _], ⟨⟨s, rfl, _⟩, ⟨v, rfl, hv⟩, ⟨p, rfl⟩, _⟩ => exact ⟨_, h3, argOf (s, v, p), by simp [argOf, AV.cells], (s, v, p), rfl, hv⟩) cs d ps ht hw
  rw [show link.P.bytesOf 85 = 104 from b85] at hl
  obtain ⟨ys, rfl, hy⟩ := choose_map hx
  refine ⟨_, hv, a, ys, rfl, ha, hy, ?_⟩
  rw [List.length_map] at hl
  unfold reachBytes at hl; simp only [BIG]; omega
theorem opn_val : ∀ n, OpN link w enc n 47 fun vs => ∃ v, v.cells = vs ∧ IsVal v := by
  intro n
  induction n using Nat.strongRecOn with
  | ind n ih =>
  intro cs d ps ht hw
  obtain ⟨vs, h3, vss, rfl, h4⟩ := opn_struct (L := link) (enc := enc) (t := 47) Tryz.underlying47 [GInt, GStr, GVals, GArgs, GInt] (by simp [Cut, cz3, cz9, cz45, cz39, link]) rfl (by show (Tryz.prog.cellsOf 3 + (Tryz.prog.cellsOf 9 + (Tryz.prog.cellsOf 45 + (Tryz.prog.cellsOf 39 + (Tryz.prog.cellsOf 3 + 0))))) = Tryz.prog.cellsOf 47; rw [cz9, cz47, cz3, cz45, cz39])
    (fun q hq i f G hf hG => by
      match i, hf, hG with
      | 0, hf, hG => cases hf; cases hG; exact opn_int Tryz.underlying3 q
      | 1, hf, hG => cases hf; cases hG; exact opn_str Tryz.underlying9 q
      | 2, hf, hG => cases hf; cases hG; exact opn_vals fun m hm => ih m (by omega)
      | 3, hf, hG => cases hf; cases hG; exact opn_args fun m hm => ih m (by omega)
      | 4, hf, hG => cases hf; cases hG; exact opn_int Tryz.underlying3 q) cs d ps ht hw
  match vss, h4 with
  | [_, _, _, _, _], ⟨⟨k, rfl⟩, ⟨s, rfl, _⟩, ⟨it, xs, rfl, hi, hx, bx⟩, ⟨fi, ys, rfl, hf, hy, by_⟩, ⟨p, rfl⟩, _⟩ => exact ⟨_, h3, .agg [I k, .str s, it, fi, I p], rfl, .mk hi hf hx hy bx by_⟩
def GStValue (vs : List AV) : Prop := ∃ v V, v.cells = vs ∧ IsV v V
def GSlValue (vs : List AV) : Prop := ∃ a l, vs = [a] ∧ IsL IsV 80 a l
def GStArg (vs : List AV) : Prop := ∃ v V, v.cells = vs ∧ IsArg v V
def GSlArg (vs : List AV) : Prop := ∃ a l, vs = [a] ∧ IsL IsArg 104 a l
def GStDir (vs : List AV) : Prop := ∃ v V, v.cells = vs ∧ IsDir v V
def GSlDir (vs : List AV) : Prop := ∃ a l, vs = [a] ∧ IsL IsDir 48 a l
def GStSel (vs : List AV) : Prop := ∃ v V, v.cells = vs ∧ IsSel v V
def GSlSel (vs : List AV) : Prop := ∃ a l, vs = [a] ∧ IsL IsSel 120 a l
def GStVarDef (vs : List AV) : Prop := ∃ v V, v.cells = vs ∧ IsVar v V
def GSlVarDef (vs : List AV) : Prop := ∃ a l, vs = [a] ∧ IsL IsVar 128 a l
def GStOp (vs : List AV) : Prop := ∃ v V, v.cells = vs ∧ IsOp v V
def GSlOp (vs : List AV) : Prop := ∃ a l, vs = [a] ∧ IsL IsOp 104 a l
def GStFrag (vs : List AV) : Prop := ∃ v V, v.cells = vs ∧ IsFrag v V
def GSlFrag (vs : List AV) : Prop := ∃ a l, vs = [a] ∧ IsL IsFrag 88 a l
theorem opn_stv (n : Nat) : OpN link w enc n 47 GStValue := by
  intro cs d ps ht hw
  obtain ⟨vs, hv, v, h1, h2⟩ := opn_val n cs d ps ht hw
  obtain ⟨V, h3⟩ := h2.toV
  exact ⟨vs, hv, v, V, h1, h3⟩
theorem opn_slarg (n : Nat) : OpN link w enc n 39 GSlArg := by
  intro cs d ps ht hw
  obtain ⟨vs, hv, a, ys, rfl, h1, h2, h3⟩ := opn_args (fun m _ => opn_val m) cs d ps ht hw
  obtain ⟨qs, h4, h5⟩ := choose_pairs (R := fun (y : Str × AV × Int) V => IsV y.2.1 V) (xs := ys) fun y hy => (h2 y hy).toV
  subst h4
  refine ⟨_, hv, a, qs.map fun y => (y.1.1, y.2, y.1.2.2), rfl, qs.map fun y => (argOf y.1, (y.1.1, y.2, y.1.2.2)), ?_, ?_, ?_, by simpa using h3⟩
  · rw [List.map_map] at h1 ⊢; exact h1
  · rw [List.map_map]; rfl
  · intro x hx; obtain ⟨z, hz, rfl⟩ := List.mem_map.1 hx; exact ⟨z.1.2.1, rfl, h5 z hz⟩
/-- A slice of things. -/
theorem opn_list {α : Type} {R : AV → α → Prop} {t e k by_ : Nat} (hu : link.P.underlying t = some (.slice e)) (hk : link.P.cellsOf e = k) (hb : link.P.bytesOf e = by_) (hcell : ∀ v V, R v V → v.cells.length = k ∧ v.cells.all AV.isCell = true) {n : Nat}
    (h : ∀ m, m < n → OpN link w enc m e fun vs => ∃ v V, v.cells = vs ∧ R v V) : OpN link w enc n t fun vs => ∃ a l, vs = [a] ∧ IsL R by_ a l := by
  intro cs d ps ht hw
  obtain ⟨vs, hv, a, xs, rfl, ha, hx, hl⟩ := opn_slice (L := link) (enc := enc) (t := t) (e := e) (k := k) (G := fun v => ∃ V, R v V) hu hk (fun v ⟨V, h⟩ => ⟨(hcell v V h).1, by simpa using (hcell v V h).2⟩)
    (fun m hm cs d ps h1 h2 => by obtain ⟨vs, h3, v, V, h4, h5⟩ := h m hm cs d ps h1 h2; exact ⟨vs, h3, v, h4, V, h5⟩) cs d ps ht hw
  obtain ⟨qs, h4, h5⟩ := choose_pairs (R := fun v V => R v V) hx
  subst h4
  refine ⟨_, hv, a, qs.map (·.2), rfl, qs, ha, rfl, h5, ?_⟩
  rw [hb, List.length_map] at hl
  unfold reachBytes at hl; simp only [BIG]; omega
theorem opn_StDir (n : Nat) : OpN link w enc n 68 GStDir := by
  intro cs d ps ht hw
  obtain ⟨vs, h3, vss, rfl, h4⟩ := opn_struct (L := link) (enc := enc) (t := 68) Tryz.underlying68 [GStr, GSlArg, GInt] (by simp [Cut, cz3, cz9, cz39, link]) rfl (by show (Tryz.prog.cellsOf 9 + (Tryz.prog.cellsOf 39 + (Tryz.prog.cellsOf 3 + 0))) = Tryz.prog.cellsOf 68; rw [cz3, cz9, cz39, cz68])
    (fun q hq i f G hf hG => by
      match i, hf, hG with
      | 0, hf, hG => cases hf; cases hG; exact opn_str Tryz.underlying9 q
      | 1, hf, hG => cases hf; cases hG; exact opn_slarg q
      | 2, hf, hG => cases hf; cases hG; exact opn_int Tryz.underlying3 q) cs d ps ht hw
  match vss, h4 with
  | [_, _, _], ⟨⟨nm, rfl, _⟩, ⟨ar, arl, rfl, arh⟩, ⟨p, rfl⟩, _⟩ => exact ⟨_, h3, .agg [.str nm, ar, I p], ⟨nm, arl, p⟩, rfl, ar, rfl, arh⟩
theorem dir_cell : ∀ v V, IsDir v V → v.cells.length = 3 ∧ v.cells.all AV.isCell = true := by
  rintro v V ⟨ar, rfl, h⟩
  exact ⟨rfl, by simp only [AV.cells, List.all_cons, List.all_nil, h.cell]; rfl⟩
theorem opn_SlDir (n : Nat) : OpN link w enc n 30 GSlDir := opn_list Tryz.underlying30 cz68 b68 dir_cell fun m _ => opn_StDir m
theorem sel_cell : ∀ v V, IsSel v V → v.cells.length = 7 ∧ v.cells.all AV.isCell = true := by
  intro v V h
  obtain ⟨k, al, nm, args, dirs, sels, p, ar, di, se, rfl, rfl, h1, h2, h3⟩ := h.parts
  exact ⟨rfl, by simp only [AV.cells, List.all_cons, List.all_nil, h1.cell, h2.cell, h3.cell]; rfl⟩
theorem opn_SlSel : ∀ n : Nat, OpN link w enc n 31 GSlSel := by
  intro n
  induction n using Nat.strongRecOn with
  | ind n ih0 =>
  refine opn_list Tryz.underlying31 cz41 b41 sel_cell fun m hm => ?_
  have ih : ∀ q, q < m → OpN link w enc q 31 GSlSel := fun q hq => ih0 q (by omega)
  intro cs d ps ht hw
  obtain ⟨vs, h3, vss, rfl, h4⟩ := opn_struct (L := link) (enc := enc) (t := 41) Tryz.underlying41 [GInt, GStr, GStr, GSlArg, GSlDir, GSlSel, GInt] (by simp [Cut, cz3, cz9, cz30, cz31, cz39, link]) rfl (by show (Tryz.prog.cellsOf 3 + (Tryz.prog.cellsOf 9 + (Tryz.prog.cellsOf 9 + (Tryz.prog.cellsOf 39 + (Tryz.prog.cellsOf 30 + (Tryz.prog.cellsOf 31 + (Tryz.prog.cellsOf 3 + 0))))))) = Tryz.prog.cellsOf 41; rw [cz3, cz9, cz30, cz31, cz39, cz41])
    (fun q hq i f G hf hG => by
      match i, hf, hG with
      | 0, hf, hG => cases hf; cases hG; exact opn_int Tryz.underlying3 q
      | 1, hf, hG => cases hf; cases hG; exact opn_str Tryz.underlying9 q
      | 2, hf, hG => cases hf; cases hG; exact opn_str Tryz.underlying9 q
      | 3, hf, hG => cases hf; cases hG; exact opn_slarg q
      | 4, hf, hG => cases hf; cases hG; exact opn_SlDir q
      | 5, hf, hG => cases hf; cases hG; exact ih q (by omega)
      | 6, hf, hG => cases hf; cases hG; exact opn_int Tryz.underlying3 q) cs d ps ht hw
  match vss, h4 with
  | [_, _, _, _, _, _, _], ⟨⟨k, rfl⟩, ⟨al, rfl, _⟩, ⟨nm, rfl, _⟩, ⟨ar, arl, rfl, arh⟩, ⟨di, dil, rfl, dih⟩, ⟨se, sel, rfl, seh⟩, ⟨p, rfl⟩, _⟩ => exact ⟨_, h3, .agg [I k, .str al, .str nm, ar, di, se, I p], .mk k al nm arl dil sel p, rfl, by
      obtain ⟨xs, s1, rfl, s2, s3⟩ := seh
      exact .mk arh dih s1 s2 s3⟩
theorem opn_StVarDef (n : Nat) : OpN link w enc n 49 GStVarDef := by
  intro cs d ps ht hw
  obtain ⟨vs, h3, vss, rfl, h4⟩ := opn_struct (L := link) (enc := enc) (t := 49) Tryz.underlying49 [GStr, GStr, GBool, GStValue, GInt] (by simp [Cut, cz3, cz4, cz9, cz47, link]) rfl (by show (Tryz.prog.cellsOf 9 + (Tryz.prog.cellsOf 9 + (Tryz.prog.cellsOf 4 + (Tryz.prog.cellsOf 47 + (Tryz.prog.cellsOf 3 + 0))))) = Tryz.prog.cellsOf 49; rw [cz3, cz4, cz9, cz47, cz49])
    (fun q hq i f G hf hG => by
      match i, hf, hG with
      | 0, hf, hG => cases hf; cases hG; exact opn_str Tryz.underlying9 q
      | 1, hf, hG => cases hf; cases hG; exact opn_str Tryz.underlying9 q
      | 2, hf, hG => cases hf; cases hG; exact opn_bool Tryz.underlying4 q
      | 3, hf, hG => cases hf; cases hG; exact opn_stv q
      | 4, hf, hG => cases hf; cases hG; exact opn_int Tryz.underlying3 q) cs d ps ht hw
  match vss, h4 with
  | [_, _, _, _, _], ⟨⟨nm, rfl, _⟩, ⟨t, rfl, _⟩, ⟨b, rfl⟩, ⟨v, vV, rfl, vh⟩, ⟨p, rfl⟩, _⟩ => exact ⟨_, h3, .agg (.str nm :: .str t :: .bool b :: (v.cells ++ [I p])), ⟨nm, t, b, vV, p⟩, by simp [AV.cells], v, rfl, vh⟩
theorem opn_SlVarDef (n : Nat) : OpN link w enc n 29 GSlVarDef := opn_list Tryz.underlying29 cz49 b49 (fun v V h => by obtain ⟨x, rfl, _, h9, ha⟩ := h.all; exact ⟨h9, ha⟩) fun m _ => opn_StVarDef m
theorem opn_StOp (n : Nat) : OpN link w enc n 33 GStOp := by
  intro cs d ps ht hw
  obtain ⟨vs, h3, vss, rfl, h4⟩ := opn_struct (L := link) (enc := enc) (t := 33) Tryz.underlying33 [GInt, GStr, GSlVarDef, GSlDir, GSlSel, GInt] (by simp [Cut, cz3, cz9, cz29, cz30, cz31, link]) rfl (by show (Tryz.prog.cellsOf 3 + (Tryz.prog.cellsOf 9 + (Tryz.prog.cellsOf 29 + (Tryz.prog.cellsOf 30 + (Tryz.prog.cellsOf 31 + (Tryz.prog.cellsOf 3 + 0)))))) = Tryz.prog.cellsOf 33; rw [cz3, cz9, cz29, cz30, cz31, cz33])
    (fun q hq i f G hf hG => by
      match i, hf, hG with
      | 0, hf, hG => cases hf; cases hG; exact opn_int Tryz.underlying3 q
      | 1, hf, hG => cases hf; cases hG; exact opn_str Tryz.underlying9 q
      | 2, hf, hG => cases hf; cases hG; exact opn_SlVarDef q
      | 3, hf, hG => cases hf; cases hG; exact opn_SlDir q
      | 4, hf, hG => cases hf; cases hG; exact opn_SlSel q
      | 5, hf, hG => cases hf; cases hG; exact opn_int Tryz.underlying3 q) cs d ps ht hw
  match vss, h4 with
  | [_, _, _, _, _, _], ⟨⟨k, rfl⟩, ⟨nm, rfl, _⟩, ⟨va, val, rfl, vah⟩, ⟨di, dil, rfl, dih⟩, ⟨se, sel, rfl, seh⟩, ⟨p, rfl⟩, _⟩ => exact ⟨_, h3, .agg [I k, .str nm, va, di, se, I p], ⟨k, nm, val, dil, sel, p⟩, rfl, va, di, se, rfl, vah, dih, seh⟩
theorem opn_SlOp (n : Nat) : OpN link w enc n 22 GSlOp := opn_list Tryz.underlying22 cz33 b33 (fun v V h => by obtain ⟨va, di, se, rfl, h1, h2, h3⟩ := h; exact ⟨rfl, by simp only [AV.cells, List.all_cons, List.all_nil, h1.cell, h2.cell, h3.cell]; rfl⟩) fun m _ => opn_StOp m
theorem opn_StFrag (n : Nat) : OpN link w enc n 52 GStFrag := by
  intro cs d ps ht hw
  obtain ⟨vs, h3, vss, rfl, h4⟩ := opn_struct (L := link) (enc := enc) (t := 52) Tryz.underlying52 [GStr, GStr, GSlDir, GSlSel, GInt] (by simp [Cut, cz3, cz9, cz30, cz31, link]) rfl (by show (Tryz.prog.cellsOf 9 + (Tryz.prog.cellsOf 9 + (Tryz.prog.cellsOf 30 + (Tryz.prog.cellsOf 31 + (Tryz.prog.cellsOf 3 + 0))))) = Tryz.prog.cellsOf 52; rw [cz3, cz9, cz30, cz31, cz52])
    (fun q hq i f G hf hG => by
      match i, hf, hG with
      | 0, hf, hG => cases hf; cases hG; exact opn_str Tryz.underlying9 q
      | 1, hf, hG => cases hf; cases hG; exact opn_str Tryz.underlying9 q
      | 2, hf, hG => cases hf; cases hG; exact opn_SlDir q
      | 3, hf, hG => cases hf; cases hG; exact opn_SlSel q
      | 4, hf, hG => cases hf; cases hG; exact opn_int Tryz.underlying3 q) cs d ps ht hw
  match vss, h4 with
  | [_, _, _, _, _], ⟨⟨nm, rfl, _⟩, ⟨on, rfl, _⟩, ⟨di, dil, rfl, dih⟩, ⟨se, sel, rfl, seh⟩, ⟨p, rfl⟩, _⟩ => exact ⟨_, h3, .agg [.str nm, .str on, di, se, I p], ⟨nm, on, dil, sel, p⟩, rfl, di, se, rfl, dih, seh⟩
theorem opn_SlFrag (n : Nat) : OpN link w enc n 23 GSlFrag := opn_list Tryz.underlying23 cz52 b52 (fun v V h => by obtain ⟨di, se, rfl, h2, h3⟩ := h; exact ⟨rfl, by simp only [AV.cells, List.all_cons, List.all_nil, h2.cell, h3.cell]; rfl⟩) fun m _ => opn_StFrag m
theorem opn_doc (n : Nat) : OpN link w enc n 25 fun vs => ∃ a D, a.cells = vs ∧ IsDoc a D := by
  intro cs d ps ht hw
  obtain ⟨vs, h3, vss, rfl, h4⟩ := opn_struct (L := link) (enc := enc) (t := 25) Tryz.underlying25 [GSlOp, GSlFrag] (by simp [Cut, cz22, cz23, link]) rfl (by show (Tryz.prog.cellsOf 22 + (Tryz.prog.cellsOf 23 + 0)) = Tryz.prog.cellsOf 25; rw [cz22, cz23, cz25])
    (fun q hq i f G hf hG => by
      match i, hf, hG with
      | 0, hf, hG => cases hf; cases hG; exact opn_SlOp q
      | 1, hf, hG => cases hf; cases hG; exact opn_SlFrag q) cs d ps ht hw
  match vss, h4 with
  | [_, _], ⟨⟨os, osl, rfl, osh⟩, ⟨fs, fsl, rfl, fsh⟩, _⟩ => exact ⟨_, h3, .agg [os, fs], ⟨osl, fsl⟩, rfl, os, fs, rfl, osh, fsh⟩
end
end Go.AM.T
