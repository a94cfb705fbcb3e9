/- Slices, fields, elements; lengths; conversions. -/
import Derived.Test.YtbdpkblldffkcaaGreatDoorAb
import Derived.Lib.IndexBytes
import Derived.Laws.StructEq
import Derived.Laws.BytesString
import Derived.Lib.UnsafeStr
set_option linter.unusedSectionVars false
set_option linter.unnecessarySimpa false
set_option linter.deprecated false
set_option linter.unusedVariables false
set_option linter.unusedSimpArgs false
namespace Go.AM
set_option linter.unusedVariables false
set_option linter.unusedSimpArgs false

section
variable {sz : Nat}
theorem flat_len {xs : List AV} (h : xs.all (fun x => x.cells.length == sz) = true) : (xs.flatMap AV.cells).length = xs.length * sz := by
  induction xs with
  | nil => simp
  | cons x r ih =>
    simp only [List.all_cons, Bool.and_eq_true, beq_iff_eq] at h
    simp only [List.flatMap_cons, List.length_append, h.1, ih h.2, List.length_cons, Nat.succ_mul]
    omega
theorem flat_take {xs : List AV} (h : xs.all (fun x => x.cells.length == sz) = true) (n : Nat) : (xs.take n).flatMap AV.cells = (xs.flatMap AV.cells).take (n * sz) := by
  induction n generalizing xs with
  | zero => simp
  | succ n ih =>
    cases xs with
    | nil => simp
    | cons x r =>
      simp only [List.all_cons, Bool.and_eq_true, beq_iff_eq] at h
      simp only [List.take_succ_cons, List.flatMap_cons, ih h.2]
      rw [List.take_append, h.1, Nat.succ_mul]
      congr 1
      · rw [List.take_of_length_le (by omega)]
      · congr 1; omega
theorem flat_drop {xs : List AV} (h : xs.all (fun x => x.cells.length == sz) = true) (n : Nat) : (xs.drop n).flatMap AV.cells = (xs.flatMap AV.cells).drop (n * sz) := by
  induction n generalizing xs with
  | zero => simp
  | succ n ih =>
    cases xs with
    | nil => simp
    | cons x r =>
      simp only [List.all_cons, Bool.and_eq_true, beq_iff_eq] at h
      simp only [List.drop_succ_cons, List.flatMap_cons, ih h.2]
      have hx : x.cells.drop ((n + 1) * sz) = [] := List.drop_eq_nil_of_le (by rw [Nat.succ_mul]; omega)
      rw [List.drop_append, hx, List.nil_append, h.1, Nat.succ_mul]
      congr 1; omega
theorem all_take {xs : List AV} (h : xs.all (fun x => x.cells.length == sz) = true) (n : Nat) : (xs.take n).all (fun x => x.cells.length == sz) = true := by
  rw [List.all_eq_true] at h ⊢
  exact fun x hx => h x (List.mem_of_mem_take hx)
theorem flat_at {xs : List AV} (h : xs.all (fun x => x.cells.length == sz) = true) {i : Nat} {v : AV} (hv : xs[i]? = some v) : v.cells = ((xs.flatMap AV.cells).drop (i * sz)).take sz := by
  have h1 : xs.drop i = v :: xs.drop (i + 1) := List.drop_eq_getElem?_toList_append.trans (by simp [hv])
  rw [← flat_drop h, h1, List.flatMap_cons]
  have : v.cells.length = sz := by
    rw [List.all_eq_true] at h
    simpa using h v (List.mem_of_getElem? hv)
  rw [List.take_append, this, List.take_of_length_le (by omega)]
  simp
end

section
variable {L : Link} {w : World} {ρ : Map} {H : Heap}

theorem run_sliceAt_sl {P : Program} {t e : TypeId} (ht : P.underlying t = some (.slice e)) {a : Option Addr} {len cap : Nat} {lo hi mx : Option Value} {l h m sz : Nat}
    (hb : (Instr.sliceBounds true len cap lo hi mx).run P w = .ok (l, h, m) w) (hs : (sizeOf e).run P w = .ok sz w) :
    (Instr.sliceAt t (.slice a len cap) lo hi mx).run P w = .ok (.slice (if m = l then a else a.map (·.add (l * sz))) (h - l) (m - l)) w := by
  simp [Instr.sliceAt, Instr.slice, run_underlying1 ht, hb, hs]

theorem slice_ok (hr : HR L w ρ H) {t : TypeId} {sz : Nat} (ht : (∃ e, L.P.underlying t = some (.slice e) ∧ sizeOk L.P e sz = true ∧ sz ≠ 0) ∨ (L.P.underlying t = some .string ∧ sz = 0)) {x : AV} {xv : Value} (hx : VR L w ρ (Own ρ H) x xv)
    {lo hi mx : Option AV} {xlo xhi xmx : Option Value} (hlo : ∀ v, lo = some v → ∃ x, xlo = some x ∧ VR L w ρ (Own ρ H) v x) (hlo0 : lo = none → xlo = none)
    (hhi : ∀ v, hi = some v → ∃ x, xhi = some x ∧ VR L w ρ (Own ρ H) v x) (hhi0 : hi = none → xhi = none) (hmx : ∀ v, mx = some v → ∃ x, xmx = some x ∧ VR L w ρ (Own ρ H) v x) (hmx0 : mx = none → xmx = none)
    (hmh : mx.isSome = true → hi.isSome = true) {v : AV} (h : sliceA sz x lo hi mx = some v) :
    ∃ y, (Instr.sliceAt t xv xlo xhi xmx).run L.P w = .ok y w ∧ VR L w ρ (Own ρ H) v y := by
  unfold sliceA at h
  split at h
  · -- a text
    rename_i s
    split at h
    · cases h
    rename_i hmn
    have hsz0 : sz = 0 := by simp at hmn; exact hmn.2
    have hu : L.P.underlying t = some .string := by
      rcases ht with ⟨e, _, _, h0⟩ | ⟨h, _⟩
      · exact absurd hsz0 h0
      · exact h
    have hmx' : mx = none := by cases mx <;> simp_all
    subst hmx'
    split at h
    case h_2 => cases h
    rename_i h' l' eh el
    split at h
    case isFalse => cases h
    rename_i hc
    injection h with h; subst h
    cases hx with
    | str b =>
      have hl : b.data.toList.length = b.size := Array.length_toList
      have hb := run_bounds (isSlice := false) (len := b.size) (cap := b.size) (mx := none) hlo hlo0 hhi hhi0 (by simp) (fun _ => rfl) (l := l') (h := h') (m := b.size) (by cases lo <;> simpa [optNat] using el) (by rw [← hl]; cases hi <;> simpa [optNat] using eh) (by simp [optNat]) (by simp) hc.1 (by omega) (Nat.le_refl _)
      rw [hmx0 rfl]
      refine ⟨.string (b.extract l' h'), by simp [Instr.sliceAt, Instr.slice, run_underlying1 hu, hb], ?_⟩
      have : (b.data.toList.take h').drop l' = (b.extract l' h').data.toList := by rw [Lib.extract_data, List.drop_take]
      rw [this]; exact .str _
  · -- nil
    cases hx
    split at h
    case h_2 => cases h
    rename_i eh el em
    split at h
    · cases h
    rename_i hnz
    have hu : ∃ e, L.P.underlying t = some (.slice e) ∧ sizeOk L.P e sz = true := by
      rcases ht with ⟨e, h1, h2, _⟩ | ⟨_, h⟩
      · exact ⟨e, h1, h2⟩
      · exact absurd h hnz
    obtain ⟨e, hu, hsz⟩ := hu
    injection h with h; subst h
    have hb := run_bounds (isSlice := true) (len := 0) (cap := 0) hlo hlo0 hhi hhi0 hmx hmx0 (l := 0) (h := 0) (m := 0) (by cases lo <;> simpa [optNat] using el) (by cases hi <;> simpa [optNat] using eh) (by cases mx <;> simpa [optNat] using em) hmh (Nat.le_refl _) (Nat.le_refl _) (Nat.le_refl _)
    exact ⟨.slice none 0 0, by simpa using run_sliceAt_sl (a := none) hu hb (sizeOk_run hsz w), .nils⟩
  · rename_i xs
    split at h
    case h_2 => cases h
    rename_i h' l' m' eh el em
    split at h
    case isFalse => cases h
    rename_i hc
    obtain ⟨hlh, hhm, hml, huni, hnz⟩ := hc
    have hu : ∃ e, L.P.underlying t = some (.slice e) ∧ sizeOk L.P e sz = true := by
      rcases ht with ⟨e, h1, h2, _⟩ | ⟨_, h⟩
      · exact ⟨e, h1, h2⟩
      · exact absurd h hnz
    obtain ⟨e, hu, hsz⟩ := hu
    injection h with h; subst h
    cases hx with
    | @data _ vals a cap hv hic hlc hcell ho =>
      obtain ⟨m, hm1, hm2, hm3⟩ : ∃ m, optNat cap mx = some m ∧ h' ≤ m ∧ m ≤ cap := by
        cases mx with
        | none => exact ⟨cap, rfl, by omega, Nat.le_refl _⟩
        | some v => exact ⟨m', by simpa [optNat] using em, hhm, by omega⟩
      have hb := run_bounds (isSlice := true) (len := xs.length) (cap := cap) hlo hlo0 hhi hhi0 hmx hmx0 (l := l') (h := h') (m := m) (by cases lo <;> simpa [optNat] using el) (by cases hi <;> simpa [optNat] using eh) hm1 hmh hlh hm2 hm3
      refine ⟨_, run_sliceAt_sl hu hb (sizeOk_run hsz w), ?_⟩
      have hlen : ((xs.take h').drop l').length = h' - l' := by simp; omega
      have hfl : ((xs.take h').drop l').flatMap AV.cells = ((xs.flatMap AV.cells).take (h' * sz)).drop (l' * sz) := by
        rw [flat_drop (all_take huni h'), flat_take huni]
      have hv' : VRs L w ρ (Own ρ H) (((xs.take h').drop l').flatMap AV.cells) ((vals.take (h' * sz)).drop (l' * sz)) := by
        rw [hfl]; exact (hv.take _).drop _
      have hic' : ∀ c ∈ ((xs.take h').drop l').flatMap AV.cells, c.isCell = true := by
        intro c hc
        rw [hfl] at hc
        exact hic c (List.mem_of_mem_take (List.mem_of_mem_drop hc))
      have hfull := hv.length
      rw [flat_len huni] at hfull
      rw [← hlen]
      by_cases hml' : m = l'
      · have h0 : h' = l' := by omega
        rw [if_pos hml']
        have hnil : (vals.take (h' * sz)).drop (l' * sz) = [] := by
          apply List.drop_eq_nil_of_le; simp; rw [h0]; omega
        rw [hnil] at hv'
        exact .data hv' hic' (by rw [hlen]; omega) (by simp) (by simp)
      · rw [if_neg hml']
        refine .data hv' hic' (by rw [hlen]; omega) (fun j hj => ?_) (fun hp => ?_)
        · rw [Addr.add_add]
          simp at hj
          have := hcell (l' * sz + j) (by omega)
          rw [this, List.getElem?_drop, List.getElem?_take]
          rw [if_pos (by omega)]
        · rw [Addr.add_block]
          simp at hp
          exact ho (by omega)
  · rename_i b off len sh
    split at h
    case h_2 => cases h
    rename_i h' l' m' eh el em
    split at h
    case isFalse => cases h
    rename_i hc
    obtain ⟨hlh, hhm, hml, rfl, hnz⟩ := hc
    have hu : ∃ e, L.P.underlying t = some (.slice e) ∧ sizeOk L.P e (szOf sh) = true := by
      rcases ht with ⟨e, h1, h2, _⟩ | ⟨_, h⟩
      · exact ⟨e, h1, h2⟩
      · exact absurd h hnz
    obtain ⟨e, hu, hsz⟩ := hu
    injection h with h; subst h
    cases hx with
    | @sl _ _ _ _ c base cap a hb' hlc hcap =>
      obtain ⟨m, hm1, hm2, hm3⟩ : ∃ m, optNat cap mx = some m ∧ h' ≤ m ∧ m ≤ cap := by
        cases mx with
        | none => exact ⟨cap, rfl, by omega, Nat.le_refl _⟩
        | some v => exact ⟨m', by simpa [optNat] using em, hhm, by omega⟩
      have hb := run_bounds (isSlice := true) (len := len) (cap := cap) hlo hlo0 hhi hhi0 hmx hmx0 (l := l') (h := h') (m := m) (by cases lo <;> simpa [optNat] using el) (by cases hi <;> simpa [optNat] using eh) hm1 hmh hlh hm2 hm3
      refine ⟨_, run_sliceAt_sl hu hb (sizeOk_run hsz w), ?_⟩
      by_cases hml' : m = l'
      · rw [if_pos hml']
        exact .sl hb' (by omega) (fun hp => by omega)
      · rw [if_neg hml']
        refine .sl hb' (by omega) (fun hp => ?_)
        obtain ⟨rfl, cs, ty, fr, hw, hle⟩ := hcap (by omega)
        refine ⟨by show (⟨c, base + off, none⟩ : Addr).add (l' * szOf sh) = _; rw [Addr.plain_add, Nat.add_assoc], cs, ty, fr, hw, ?_⟩
        have hle3 : l' ≤ m := by omega
        have : l' * szOf sh + (m - l') * szOf sh = m * szOf sh := by rw [← Nat.add_mul, Nat.add_sub_of_le hle3]
        have : m * szOf sh ≤ cap * szOf sh := Nat.mul_le_mul_right _ hm3
        omega
  · cases h

/-! ### Parts of values -/
theorem part_ok {own : Nat → Prop} {t : TypeId} {sh : Option Nat} (ht : shOk L.P t sh = true) {cs : List AV} {xs : List Value} (hv : VRs L w ρ own cs xs) (hi : ∀ c ∈ cs, c.isCell = true) {off : Nat} {v : AV} (h : mkv sh (cs.drop off) = some v) :
    ∃ y, (part t xs.toArray off).run L.P w = .ok y w ∧ VR L w ρ own v y := by
  obtain ⟨h1, h2, _⟩ := shOk_run ht w
  have hd := hv.drop off
  cases sh with
  | none =>
    simp only [mkv] at h
    have hx : (cs.drop off)[0]? = some v := by rw [← List.head?_eq_getElem?]; exact h
    obtain ⟨y, h3, h4⟩ := hd.get? hx
    rw [List.getElem?_drop] at h3
    simp at h3
    exact ⟨y, by simp [part, h1, h3], h4⟩
  | some n =>
    simp only [mkv] at h
    split at h
    · rename_i hn
      injection h with h; subst h
      have he : (xs.toArray.extract off (off + n)) = ((xs.drop off).take n).toArray := by
        apply Array.ext'
        simp [List.extract_eq_drop_take]
      refine ⟨.agg ((xs.drop off).take n).toArray, by simp [part, h1, h2, szOf, he], .agg (hd.take n) fun c hc => hi c (List.mem_of_mem_drop (List.mem_of_mem_take hc))⟩
    · cases h

def fieldOk (P : Program) (t : TypeId) (i off : Nat) : Option TypeId :=
  match P.underlying t with
  | some (.struct fs) => (match fs[i]? with | some f => if f.offset = off then some f.type else none | none => none)
  | _ => none
theorem fieldOk_ok {P : Program} {t : TypeId} {i off : Nat} {ft : TypeId} (h : fieldOk P t i off = some ft) : ∃ fs f, P.underlying t = some (.struct fs) ∧ fs[i]? = some f ∧ f.offset = off ∧ f.type = ft := by
  unfold fieldOk at h
  split at h
  · rename_i fs hu
    split at h
    · rename_i f hf
      split at h
      · rename_i ho; injection h with h; exact ⟨fs, f, hu, hf, ho, h⟩
      · cases h
    · cases h
  · cases h
theorem field_ok {own : Nat → Prop} {t ft : TypeId} {i off : Nat} {sh : Option Nat} (hf : fieldOk L.P t i off = some ft) (ht : shOk L.P ft sh = true) {cs : List AV} {x : Value} (hx : VR L w ρ own (.agg cs) x) {v : AV} (h : mkv sh (cs.drop off) = some v) :
    ∃ y, (Instr.field t x i).run L.P w = .ok y w ∧ VR L w ρ own v y := by
  obtain ⟨fs, f, hu, hfi, ho, hty⟩ := fieldOk_ok hf
  cases hx with
  | agg hv hi =>
    obtain ⟨y, h1, h2⟩ := part_ok ht hv hi h
    subst ho; subst hty
    exact ⟨y, by simp [Instr.field, run_underlying1 hu, hfi, asAgg, h1], h2⟩
theorem cells_drop {own : Nat → Prop} {cs : List AV} {a : Addr} (h : VR L w ρ own (.dptr cs) (.pointer (some a))) (off : Nat) : VR L w ρ own (.dptr (cs.drop off)) (.pointer (some (a.add off))) := by
  cases h with
  | @dptr _ vals _ hv hi hc ho =>
    refine .dptr (hv.drop off) (fun c hc => hi c (List.mem_of_mem_drop hc)) (fun j hj => ?_) (fun hp => ?_)
    · simp at hj
      rw [Addr.add_add, hc _ (by omega), List.getElem?_drop]
    · simp at hp
      rw [Addr.add_block]; exact ho (by omega)
theorem faddr_ok {own : Nat → Prop} {t ft : TypeId} {i off : Nat} (hf : fieldOk L.P t i off = some ft) {n : Nat} (hn : sizeOk L.P ft n = true) (h0 : n ≠ 0) {x v : AV} {xv : Value} (hx : VR L w ρ own x xv)
    (h : faddrA off x = some v) : ∃ y, (Instr.fieldAt t xv i).run L.P w = .ok y w ∧ VR L w ρ own v y := by
  obtain ⟨fs, f, hu, hfi, ho, hty⟩ := fieldOk_ok hf
  subst ho; subst hty
  have hs := sizeOk_run hn w
  have hx' := hx
  cases hx with
  | @ptr b o c base hb =>
    simp [faddrA] at h; subst h
    refine ⟨.pointer (some ((⟨c, base + o, none⟩ : Addr).add f.offset)), by simp [Instr.fieldAt, run_underlying1 hu, hfi, Instr.sureAddr, fieldPlace, hs, h0], ?_⟩
    rw [Addr.plain_add, Nat.add_assoc]; exact .ptr hb
  | @dptr cs vals a hv hi hc ho =>
    simp [faddrA] at h; subst h
    exact ⟨.pointer (some (a.add f.offset)), by simp [Instr.fieldAt, run_underlying1 hu, hfi, Instr.sureAddr, fieldPlace, hs, h0], cells_drop hx' f.offset⟩
  | _ => simp [faddrA] at h
theorem iaddr_ok {own : Nat → Prop} {t e : TypeId} {sh : Option Nat} (hu : L.P.underlying t = some (.slice e)) (ht : shOk L.P e sh = true) {x i v : AV} {xv iv : Value} (hx : VR L w ρ own x xv) (hi : VR L w ρ own i iv) (h : iaddrA sh x i = some v) :
    ∃ y, (Instr.indexAt t xv iv).run L.P w = .ok y w ∧ VR L w ρ own v y := by
  obtain ⟨_, hs, _⟩ := shOk_run ht w
  unfold iaddrA at h
  split at h
  · rename_i xs n hn
    obtain ⟨k, rfl⟩ := evNat_ok hi hn
    split at h
    case h_2 => cases h
    rename_i u hxu
    split at h
    case isFalse => cases h
    rename_i huni
    injection h with h; subst h
    have hlt : n < xs.length := (List.getElem?_eq_some_iff.1 hxu).1
    cases hx with
    | @data _ vals a cap hv hic hlc hcell ho =>
      refine ⟨.pointer (some (a.add (n * szOf sh))), by simp [Instr.indexAt, asIntOf, run_underlying1 hu, hs, hlt], ?_⟩
      have hfu := flat_at huni hxu
      have hfull := hv.length
      rw [flat_len huni] at hfull
      have hin : (n + 1) * szOf sh ≤ xs.length * szOf sh := Nat.mul_le_mul_right _ hlt
      rw [Nat.succ_mul] at hin
      refine .dptr (vals := (vals.drop (n * szOf sh)).take (szOf sh)) (by rw [hfu]; exact (hv.drop _).take _) (fun c hc => by rw [hfu] at hc; exact hic c (List.mem_of_mem_drop (List.mem_of_mem_take hc))) (fun j hj => ?_) (fun hp => ?_)
      · simp at hj
        rw [Addr.add_add, hcell _ (by omega), List.getElem?_take, if_pos (by omega), List.getElem?_drop]
      · simp at hp
        rw [Addr.add_block]; exact ho (by omega)
  · rename_i b off len sh' n hn
    obtain ⟨k, rfl⟩ := evNat_ok hi hn
    split at h
    case isFalse => cases h
    rename_i hc
    obtain ⟨hlt, rfl⟩ := hc
    injection h with h; subst h
    cases hx with
    | @sl _ _ _ _ c base cap a hb hlc hcap =>
      obtain ⟨rfl, _⟩ := hcap (by omega)
      refine ⟨.pointer (some ((⟨c, base + off, none⟩ : Addr).add (n * szOf sh'))), by simp [Instr.indexAt, asIntOf, run_underlying1 hu, hs, hlt], ?_⟩
      rw [Addr.plain_add, Nat.add_assoc]; exact .ptr hb
  · cases h
theorem aaddr_ok {own : Nat → Prop} {t e : TypeId} {m : Nat} {sh : Option Nat} (hu : L.P.underlying t = some (.array m e)) (ht : shOk L.P e sh = true) {x i v : AV} {xv iv : Value} (hx : VR L w ρ own x xv) (hi : VR L w ρ own i iv)
    (h : aaddrA m sh x (evNat i) = some v) : ∃ y, (Instr.indexAt t xv iv).run L.P w = .ok y w ∧ VR L w ρ own v y := by
  obtain ⟨_, hs, _⟩ := shOk_run ht w
  cases hn : evNat i with
  | none => rw [hn] at h; cases x <;> simp [aaddrA] at h
  | some n =>
    obtain ⟨k, rfl⟩ := evNat_ok hi hn
    rw [hn] at h
    have hx' := hx
    cases hx with
    | @ptr b o c base hb =>
      simp [aaddrA] at h
      obtain ⟨hlt, h⟩ := h
      subst h
      refine ⟨.pointer (some ((⟨c, base + o, none⟩ : Addr).add (n * szOf sh))), by simp [Instr.indexAt, asIntOf, run_underlying1 hu, hs, hlt, Instr.sureAddr], ?_⟩
      rw [Addr.plain_add, Nat.add_assoc]; exact .ptr hb
    | @dptr cs vals a hv hic hc ho =>
      simp [aaddrA] at h
      obtain ⟨hlt, h⟩ := h
      subst h
      exact ⟨.pointer (some (a.add (n * szOf sh))), by simp [Instr.indexAt, asIntOf, run_underlying1 hu, hs, hlt, Instr.sureAddr], cells_drop hx' _⟩
    | _ => simp [aaddrA] at h
theorem index_ok {own : Nat → Prop} {t : TypeId} {m : Nat} {sh : Option Nat} (ht : (L.P.underlying t = some .string ∧ m = 0) ∨ ∃ e, L.P.underlying t = some (.array m e) ∧ shOk L.P e sh = true ∧ m ≠ 0) {x i v : AV} {xv iv : Value} (hx : VR L w ρ own x xv) (hi : VR L w ρ own i iv)
    (h : indexA m sh x i = some v) : ∃ y, (Instr.index t xv iv).run L.P w = .ok y w ∧ VR L w ρ own v y := by
  unfold indexA at h
  split at h
  · rename_i s n hn
    obtain ⟨k, rfl⟩ := evNat_ok hi hn
    split at h
    case h_2 => cases h
    rename_i c hc
    split at h
    case isFalse => cases h
    rename_i hm0
    have hu : L.P.underlying t = some .string := by
      rcases ht with ⟨h, _⟩ | ⟨e, _, _, h0⟩
      · exact h
      · exact absurd hm0 h0
    injection h with h; subst h
    cases hx with
    | str b =>
      have hlt : n < b.size := by
        have := (List.getElem?_eq_some_iff.1 hc).1
        have hl : b.data.toList.length = b.size := Array.length_toList
        omega
      have hb : b.data.toList[n]? = some b[n] := Lib.data_getElem? b n hlt
      rw [hb] at hc; injection hc with hc; subst hc
      have := run_index_string (P := L.P) w t b k (n : Int) hu
      refine ⟨.int .u8 (b[n]).toNat, ?_, .int _ _⟩
      rw [this, dif_pos (by omega)]
      simp
  · rename_i cs n hn
    obtain ⟨k, rfl⟩ := evNat_ok hi hn
    split at h
    case isFalse => cases h
    rename_i hlt
    obtain ⟨e, hu, hsh⟩ : ∃ e, L.P.underlying t = some (.array m e) ∧ shOk L.P e sh = true := by
      rcases ht with ⟨_, h0⟩ | ⟨e, h1, h2, _⟩
      · omega
      · exact ⟨e, h1, h2⟩
    cases hx with
    | agg hv hic =>
      obtain ⟨_, hsz, _⟩ := shOk_run hsh w
      obtain ⟨y, h1, h2⟩ := part_ok hsh hv hic h
      exact ⟨y, by simp [Instr.index, asIntOf, run_underlying1 hu, hlt, hsz, h1], h2⟩
  · cases h
end
end Go.AM

/- '=='; lengths; conversions; copy; clear. -/
namespace Go.AM
set_option linter.unusedVariables false
set_option linter.unusedSimpArgs false

/-- Fields of one cell each, from place k on: numbers, texts, bools. -/
def flatTy (P : Program) : List Field → Nat → List KK → Bool
  | [], _, [] => true
  | f :: fs, k, kk :: ks => f.offset == k && f.name != "_" && kkOk P f.type kk && flatTy P fs (k + 1) ks
  | _, _, _ => false
/-- A type whose values '==' compares so. -/
def eqTy (P : Program) (t : TypeId) : EqK → Bool
  | .base => (match P.underlying t with | some .bool => true | _ => false)
  | .ptr => (match P.underlying t with | some (.pointer e) => (match P.info? e with | some i => i.size != 0 | none => false) | _ => false)
  | .sl => (match P.underlying t with | some (.slice _) => true | _ => false)
  | .map => (match P.underlying t with | some (.map _ _) => true | _ => false)
  | .fn => (match P.underlying t with | some (.func _ _ _) => true | _ => false)
  | .ifc => (match P.underlying t with | some (.interface _) => true | _ => false)
  | .flat ks => (match P.underlying t with
    | some (.struct fs) => !P.stoodInHeld t && !P.eqGuardType P.depth t && flatTy P fs.toList 0 ks
    | _ => false)
/-- Of two nil interfaces one must be the literal. -/
def eqLit (k : EqK) (x y : Operand) : Bool := k != .ifc || (match x, y with | .const _, _ => true | _, .const _ => true | _, _ => false)

section
variable {L : Link} {w : World} {ρ : Map} {H : Heap}

theorem run_eq {P : Program} {t : TypeId} {p q : Operand} {x y : Value} {b : Bool} (neg : Bool) (hg : ∀ op, (eqGuard op t p q x y).run P w = .ok () w) (hb : ∀ op, op = .eql ∨ op = .neq → Go.binOp op t x y = (if op = .eql then (do Pure.pure (.bool (← Op.equal t x y))) else (do Pure.pure (.bool (!(← Op.equal t x y))))))
    (he : (Op.equal t x y).run P w = .ok b w) : (do eqGuard (if neg then .neq else .eql) t p q x y; Go.binOp (if neg then .neq else .eql) t x y : Sem Value).run P w = .ok (.bool (b != neg)) w := by
  cases neg
  · simp [hg, hb .eql (.inl rfl), he]
  · simp [hg, hb .neq (.inr rfl), he]
def plainPair : Value → Value → Bool
  | .nilIface, .nilIface => false
  | .agg _, .agg _ => false
  | _, _ => true
theorem guard_plain {P : Program} {op : BinOp} {t : TypeId} {p q : Operand} {x y : Value} (h : plainPair x y = true) : (eqGuard op t p q x y).run P w = .ok () w := by
  unfold eqGuard
  cases hb : (!(match op with | .eql | .neq => true | _ => false)) with
  | true => simp
  | false =>
    simp only [Bool.false_eq_true, if_false]
    cases x <;> cases y <;> first | rfl | (exact nomatch (show false = true from h))
theorem maxDepth_succ : Op.maxDepth = 9999 + 1 := rfl

theorem part_one {P : Program} {t : TypeId} {kk : KK} (hk : kkOk P t kk = true) {zs : Array Value} {k : Nat} {z : Value} (hz : zs[k]? = some z) : (part t zs k).run P w = .ok z w := by
  unfold kkOk at hk
  cases hu : P.underlying t with
  | none => simp [hu] at hk
  | some d => rw [hu] at hk; cases d <;> simp at hk <;> simp [part, isAgg, run_underlying1 hu, hz]
theorem flat_fields {own : Nat → Prop} {d : Nat} : ∀ (fs : List Field) (k : Nat) (xs ys : Array Value) (ks : List KK) (as bs : List AV) (b : Bool), flatTy L.P fs k ks = true →
    VRs L w ρ own as (xs.toList.drop k) → VRs L w ρ own bs (ys.toList.drop k) → flatEq ks as bs = some b → (Op.eqFields (d + 1) xs ys fs).run L.P w = .ok b w
  | [], k, xs, ys, ks, as, bs, b, hty, _, _, h => by
    cases ks with
    | nil => cases as <;> cases bs <;> simp [flatEq] at h; subst h; simp [Op.eqFields]
    | cons _ _ => simp [flatTy] at hty
  | f :: fs, k, xs, ys, ks, as, bs, b, hty, ha, hb, h => by
    cases ks with
    | nil => simp [flatTy] at hty
    | cons kk ks =>
    simp only [flatTy, Bool.and_eq_true, beq_iff_eq, bne_iff_ne] at hty
    obtain ⟨⟨⟨hoff, hname⟩, hkk⟩, hrest⟩ := hty
    cases as with
    | nil => cases kk <;> simp [flatEq] at h
    | cons a ar =>
    cases bs with
    | nil => cases kk <;> cases a <;> simp [flatEq] at h
    | cons c br =>
    obtain ⟨x, hx, hxv⟩ : ∃ x, xs[k]? = some x ∧ VR L w ρ own a x := by
      obtain ⟨x, h1, h2⟩ := ha.get? (i := 0) (v := a) rfl
      rw [List.getElem?_drop] at h1
      exact ⟨x, by simpa using h1, h2⟩
    obtain ⟨y, hy, hyv⟩ : ∃ x, ys[k]? = some x ∧ VR L w ρ own c x := by
      obtain ⟨x, h1, h2⟩ := hb.get? (i := 0) (v := c) rfl
      rw [List.getElem?_drop] at h1
      exact ⟨x, by simpa using h1, h2⟩
    have har : VRs L w ρ own ar (xs.toList.drop (k + 1)) := by
      have := ha.drop 1; simpa [List.drop_drop] using this
    have hbr : VRs L w ρ own br (ys.toList.drop (k + 1)) := by
      have := hb.drop 1; simpa [List.drop_drop] using this
    have hpx := part_one (w := w) hkk hx
    have hpy := part_one (w := w) hkk hy
    have fin : ∀ b0 : Bool, (Op.equalIn (d + 1) f.type x y).run L.P w = .ok b0 w → (if b0 = true then flatEq ks ar br else some false) = some b → (Op.eqFields (d + 1) xs ys (f :: fs)).run L.P w = .ok b w := by
      intro b0 h1 h2
      cases b0
      · simp at h2; subst h2
        simp [Op.eqFields, hname, hoff, hpx, hpy, h1]
      · simp at h2
        have := flat_fields (d := d) fs (k + 1) xs ys ks ar br b hrest har hbr h2
        simp [Op.eqFields, hname, hoff, hpx, hpy, h1, this]
    have hkk' := hkk
    unfold kkOk at hkk'
    cases hu : L.P.underlying f.type with
    | none => simp [hu] at hkk'
    | some dd =>
    rw [hu] at hkk'
    cases kk <;> cases dd <;> simp at hkk' <;> cases hxv <;> (try (simp [flatEq] at h; done)) <;> cases hyv <;> (try (simp [flatEq] at h; done)) <;> simp only [flatEq] at h
    · rename_i s u
      refine fin (s.data.toList == u.data.toList) ?_ h
      rw [run_equalIn_string w d f.type s u hu, ByteArray.toList_eq, ByteArray.toList_eq]
    · rename_i k1 n k2 m
      split at h
      case isFalse => cases h
      rename_i hk
      subst hk
      exact fin (n == m) (run_equalIn_int w d f.type _ _ n m hu) h
    · rename_i p q
      exact fin (p == q) (run_equalIn_bool' w d f.type p q hu) h


/-- What '==' of two that lead somewhere can be told of. -/
inductive RefP : EqK → AV → AV → Bool → Prop
  | p1 : RefP .ptr .nilp .nilp true
  | p2 {b o} : RefP .ptr .nilp (.ptr b o) false
  | p3 {b o} : RefP .ptr (.ptr b o) .nilp false
  | p4 {c} : RefP .ptr .nilp (.dptr c) false
  | p5 {c} : RefP .ptr (.dptr c) .nilp false
  | p6 {b o o'} : RefP .ptr (.ptr b o) (.ptr b o') (o == o')
  | s1 : RefP .sl .nils .nils true
  | s2 {b o l s} : RefP .sl .nils (.sl b o l s) false
  | s3 {b o l s} : RefP .sl (.sl b o l s) .nils false
  | s4 {c} : RefP .sl .nils (.data c) false
  | s5 {c} : RefP .sl (.data c) .nils false
  | m1 : RefP .map .nilm .nilm true
  | m2 {b} : RefP .map .nilm (.map b) false
  | m3 {b} : RefP .map (.map b) .nilm false
  | m4 {k v} : RefP .map .nilm (.dmap k v) false
  | m5 {k v} : RefP .map (.dmap k v) .nilm false
  | f1 : RefP .fn .nilf .nilf true
  | f2 {g c} : RefP .fn .nilf (.fn g c) false
  | f3 {g c} : RefP .fn (.fn g c) .nilf false
  | i1 : RefP .ifc .nili .nili true
  | i2 {t v} : RefP .ifc .nili (.iface t v) false
  | i3 {t v} : RefP .ifc (.iface t v) .nili false
theorem refP {k : EqK} {x y : AV} {b : Bool} (h : refEq k x y = some b) : RefP k x y b := by
  unfold refEq at h
  split at h
  case h_6 =>
    split at h
    · rename_i e; subst e; injection h with h; subst h; exact .p6
    · cases h
  case h_23 => cases h
  all_goals (injection h with h; subst h; constructor)
theorem ptr_plain {own : Nat → Prop} {x y : AV} {xv yv : Value} (hx : VR L w ρ own x xv) (hy : VR L w ρ own y yv) {b : Bool} (h : refEq .ptr x y = some b) : plainPair xv yv = true := by
  cases refP h <;> cases hx <;> cases hy <;> rfl
theorem ptr_op {own : Nat → Prop} {x y : AV} {xv yv : Value} (hx : VR L w ρ own x xv) (hy : VR L w ρ own y yv) {b : Bool} (h : refEq .ptr x y = some b) {t : TypeId} {op : BinOp} (ho : op = .eql ∨ op = .neq) :
    Go.binOp op t xv yv = (if op = .eql then (do Pure.pure (.bool (← Op.equal t xv yv))) else (do Pure.pure (.bool (!(← Op.equal t xv yv))))) := by
  cases refP h <;> cases hx <;> cases hy <;> rcases ho with rfl | rfl <;> rfl
theorem sl_plain {own : Nat → Prop} {x y : AV} {xv yv : Value} (hx : VR L w ρ own x xv) (hy : VR L w ρ own y yv) {b : Bool} (h : refEq .sl x y = some b) : plainPair xv yv = true := by
  cases refP h <;> cases hx <;> cases hy <;> rfl
theorem sl_op {own : Nat → Prop} {x y : AV} {xv yv : Value} (hx : VR L w ρ own x xv) (hy : VR L w ρ own y yv) {b : Bool} (h : refEq .sl x y = some b) {t : TypeId} {op : BinOp} (ho : op = .eql ∨ op = .neq) :
    Go.binOp op t xv yv = (if op = .eql then (do Pure.pure (.bool (← Op.equal t xv yv))) else (do Pure.pure (.bool (!(← Op.equal t xv yv))))) := by
  cases refP h <;> cases hx <;> cases hy <;> rcases ho with rfl | rfl <;> rfl
theorem map_plain {own : Nat → Prop} {x y : AV} {xv yv : Value} (hx : VR L w ρ own x xv) (hy : VR L w ρ own y yv) {b : Bool} (h : refEq .map x y = some b) : plainPair xv yv = true := by
  cases refP h <;> cases hx <;> cases hy <;> rfl
theorem map_op {own : Nat → Prop} {x y : AV} {xv yv : Value} (hx : VR L w ρ own x xv) (hy : VR L w ρ own y yv) {b : Bool} (h : refEq .map x y = some b) {t : TypeId} {op : BinOp} (ho : op = .eql ∨ op = .neq) :
    Go.binOp op t xv yv = (if op = .eql then (do Pure.pure (.bool (← Op.equal t xv yv))) else (do Pure.pure (.bool (!(← Op.equal t xv yv))))) := by
  cases refP h <;> cases hx <;> cases hy <;> rcases ho with rfl | rfl <;> rfl
theorem fn_plain {own : Nat → Prop} {x y : AV} {xv yv : Value} (hx : VR L w ρ own x xv) (hy : VR L w ρ own y yv) {b : Bool} (h : refEq .fn x y = some b) : plainPair xv yv = true := by
  cases refP h <;> cases hx <;> cases hy <;> rfl
theorem fn_op {own : Nat → Prop} {x y : AV} {xv yv : Value} (hx : VR L w ρ own x xv) (hy : VR L w ρ own y yv) {b : Bool} (h : refEq .fn x y = some b) {t : TypeId} {op : BinOp} (ho : op = .eql ∨ op = .neq) :
    Go.binOp op t xv yv = (if op = .eql then (do Pure.pure (.bool (← Op.equal t xv yv))) else (do Pure.pure (.bool (!(← Op.equal t xv yv))))) := by
  cases refP h <;> cases hx <;> cases hy <;> rcases ho with rfl | rfl <;> rfl
theorem ifc_op {own : Nat → Prop} {x y : AV} {xv yv : Value} (hx : VR L w ρ own x xv) (hy : VR L w ρ own y yv) {b : Bool} (h : refEq .ifc x y = some b) {t : TypeId} {op : BinOp} (ho : op = .eql ∨ op = .neq) :
    Go.binOp op t xv yv = (if op = .eql then (do Pure.pure (.bool (← Op.equal t xv yv))) else (do Pure.pure (.bool (!(← Op.equal t xv yv))))) := by
  cases refP h <;> cases hx <;> cases hy <;> rcases ho with rfl | rfl <;> rfl
theorem ifc_guard {own : Nat → Prop} {x y : AV} {xv yv : Value} {p q : Operand} (hl : eqLit .ifc p q = true) (hx : VR L w ρ own x xv) (hy : VR L w ρ own y yv) {b : Bool} (h : refEq .ifc x y = some b) {t : TypeId} {op : BinOp} : (eqGuard op t p q xv yv).run L.P w = .ok () w := by
  cases refP h
  · cases hx; cases hy
    simp only [eqLit, bne_self_eq_false, Bool.false_or] at hl
    unfold eqGuard
    cases hb : (!(match op with | .eql | .neq => true | _ => false)) with
    | true => simp
    | false =>
      simp only [Bool.false_eq_true, if_false]
      cases p <;> cases q <;> first | rfl | (exact nomatch (show false = true from hl))
  · cases hx; cases hy; exact guard_plain rfl
  · cases hx; cases hy; exact guard_plain rfl
theorem sl_eq {own : Nat → Prop} {x y : AV} {xv yv : Value} {t : TypeId} (ht : eqTy L.P t .sl = true) (hx : VR L w ρ own x xv) (hy : VR L w ρ own y yv) {b : Bool} (h : refEq .sl x y = some b) (d : Nat) : (Op.equalIn (d + 1) t xv yv).run L.P w = .ok b w := by
  simp only [eqTy] at ht
  split at ht
  case h_2 => cases ht
  rename_i e hu
  cases refP h <;> cases hx <;> cases hy <;> simp only [Op.equalIn, Sem.run_bind, run_underlying1 hu, Result.andThen_ok, Sem.run_pure, Option.isNone_none, Option.isNone_some]
theorem map_eq {own : Nat → Prop} {x y : AV} {xv yv : Value} {t : TypeId} (ht : eqTy L.P t .map = true) (hx : VR L w ρ own x xv) (hy : VR L w ρ own y yv) {b : Bool} (h : refEq .map x y = some b) (d : Nat) : (Op.equalIn (d + 1) t xv yv).run L.P w = .ok b w := by
  simp only [eqTy] at ht
  split at ht
  case h_2 => cases ht
  rename_i kt et hu
  cases refP h <;> cases hx <;> cases hy <;> simp only [Op.equalIn, Sem.run_bind, run_underlying1 hu, Result.andThen_ok, Sem.run_pure, Option.isNone_none, Option.isNone_some]
theorem fn_eq {own : Nat → Prop} {x y : AV} {xv yv : Value} {t : TypeId} (ht : eqTy L.P t .fn = true) (hx : VR L w ρ own x xv) (hy : VR L w ρ own y yv) {b : Bool} (h : refEq .fn x y = some b) (d : Nat) : (Op.equalIn (d + 1) t xv yv).run L.P w = .ok b w := by
  simp only [eqTy] at ht
  split at ht
  case h_2 => cases ht
  rename_i hu
  cases refP h <;> cases hx <;> cases hy <;> simp only [Op.equalIn, Sem.run_bind, run_underlying1 hu, Result.andThen_ok, Sem.run_pure, Option.isNone_none, Option.isNone_some]
theorem ifc_eq {own : Nat → Prop} {x y : AV} {xv yv : Value} {t : TypeId} (ht : eqTy L.P t .ifc = true) (hx : VR L w ρ own x xv) (hy : VR L w ρ own y yv) {b : Bool} (h : refEq .ifc x y = some b) (d : Nat) : (Op.equalIn (d + 1) t xv yv).run L.P w = .ok b w := by
  simp only [eqTy] at ht
  split at ht
  case h_2 => cases ht
  rename_i ms hu
  cases refP h <;> cases hx <;> cases hy <;> simp only [Op.equalIn, Sem.run_bind, run_underlying1 hu, Result.andThen_ok, Sem.run_pure, Option.isNone_none, Option.isNone_some]
theorem ptr_eq (hr : HR L w ρ H) {own : Nat → Prop} {x y : AV} {xv yv : Value} {t : TypeId} (ht : eqTy L.P t .ptr = true) (hx : VR L w ρ own x xv) (hy : VR L w ρ own y yv) {b : Bool} (h : refEq .ptr x y = some b) (d : Nat) : (Op.equalIn (d + 1) t xv yv).run L.P w = .ok b w := by
  simp only [eqTy] at ht
  split at ht
  case h_2 => cases ht
  rename_i e hu
  split at ht
  case h_2 => cases ht
  rename_i i hi
  simp only [bne_iff_ne] at ht
  have hsz : ∀ w', (sizeOf e).run L.P w' = .ok i.size w' := fun w' => by simp [sizeOf, typeInfo, hi]
  cases refP h
  case p6 b1 o1 o2 =>
    cases hx with | @ptr _ _ c s h1 =>
    cases hy with | @ptr _ _ c' s' h2 =>
    rw [h1] at h2; injection h2 with h2; injection h2 with e1 e2; subst e1; subst e2
    have he : ((⟨c, s + o1, none⟩ : Addr) == ⟨c, s + o2, none⟩) = (o1 == o2) := by
      rw [Bool.eq_iff_iff]; simp
    simp only [Op.equalIn, Sem.run_bind, run_underlying1 hu, Result.andThen_ok, Sem.run_pure, hsz, ne_eq, ht, not_false_eq_true, if_true]
    simp [sameAddr, he]
  all_goals (cases hx; cases hy; simp only [Op.equalIn, Sem.run_bind, run_underlying1 hu, Result.andThen_ok, Sem.run_pure, Option.isNone_none, Option.isNone_some])

theorem eq_ok {own : Nat → Prop} (hr : HR L w ρ H) {t : TypeId} {k : EqK} (ht : eqTy L.P t k = true) {p q : Operand} (hl : eqLit k p q = true) {x y v : AV} {xv yv : Value} (hx : VR L w ρ own x xv) (hy : VR L w ρ own y yv) {neg : Bool} (h : eqA k neg x y = some v) :
    ∃ z, (do eqGuard (if neg then .neq else .eql) t p q xv yv; Go.binOp (if neg then .neq else .eql) t xv yv : Sem Value).run L.P w = .ok z w ∧ VR L w ρ own v z := by
  obtain ⟨b, hb, hv⟩ := Option.map_eq_some_iff.1 h
  subst hv
  clear h
  have close : (∀ op, (eqGuard op t p q xv yv).run L.P w = .ok () w) →
      (∀ op, op = .eql ∨ op = .neq → Go.binOp op t xv yv = (if op = .eql then (do Pure.pure (.bool (← Op.equal t xv yv))) else (do Pure.pure (.bool (!(← Op.equal t xv yv)))))) →
      (∀ d, (Op.equalIn (d + 1) t xv yv).run L.P w = .ok b w) → ∃ z, (do eqGuard (if neg then .neq else .eql) t p q xv yv; Go.binOp (if neg then .neq else .eql) t xv yv : Sem Value).run L.P w = .ok z w ∧ VR L w ρ own (.bool (b != neg)) z := by
    intro hg hb he
    exact ⟨_, run_eq neg hg hb (he 9999), .bool _⟩
  cases k with
  | base =>
    simp only [eqTy] at ht
    split at ht
    case h_2 => cases ht
    rename_i hu
    cases hx <;> (try (simp at hb; done))
    rename_i b1
    cases hy <;> (try (simp at hb; done))
    rename_i b2
    simp at hb; subst hb
    exact close (fun op => guard_plain rfl) (fun op ho => by rcases ho with rfl | rfl <;> rfl) (fun d => run_equalIn_bool' w d t b1 b2 hu)
  | flat ks =>
    simp only [eqTy] at ht
    split at ht
    case h_2 => cases ht
    rename_i fs hu
    simp only [Bool.and_eq_true, Bool.not_eq_true'] at ht
    obtain ⟨⟨h1, h2⟩, h3⟩ := ht
    cases hx <;> (try (simp at hb; done))
    rename_i as xs ha hai
    cases hy <;> (try (simp at hb; done))
    rename_i bs ys hbs hbi
    simp only at hb
    split at hb
    case isFalse => cases hb
    have hfo : L.P.fieldsOf t = fs := by simp [Program.fieldsOf, hu]
    refine ⟨_, run_eq neg (fun op => run_eqGuard_agg w op t p q _ _ h2) (fun op ho => by rcases ho with rfl | rfl <;> rfl) (b := b) ?_, .bool _⟩
    show (Op.equalIn (9999 + 1) t _ _).run L.P w = _
    rw [run_equalIn_agg w _ t _ _ (by rw [hfo]; exact hu) h1, hfo]
    exact flat_fields (d := 9998) fs.toList 0 xs.toArray ys.toArray ks as bs b h3 (by simpa using ha) (by simpa using hbs) hb
  | ptr => exact close (fun op => guard_plain (ptr_plain hx hy hb)) (fun op ho => ptr_op hx hy hb ho) (ptr_eq hr ht hx hy hb)
  | sl => exact close (fun op => guard_plain (sl_plain hx hy hb)) (fun op ho => sl_op hx hy hb ho) (sl_eq ht hx hy hb)
  | map => exact close (fun op => guard_plain (map_plain hx hy hb)) (fun op ho => map_op hx hy hb ho) (map_eq ht hx hy hb)
  | fn => exact close (fun op => guard_plain (fn_plain hx hy hb)) (fun op ho => fn_op hx hy hb ho) (fn_eq ht hx hy hb)
  | ifc => exact close (fun op => ifc_guard hl hx hy hb) (fun op ho => ifc_op hx hy hb ho) (ifc_eq ht hx hy hb)
end
end Go.AM

/- Lengths, conversions, copy, clear; which operation of the program an operation of the A-machine stands for; one step is sound. -/
namespace Go.AM
set_option linter.unusedVariables false
set_option linter.unusedSimpArgs false

section
variable {L : Link} {w : World} {ρ : Map} {H : Heap}

def lkOk (P : Program) (t : TypeId) : LK → Bool
  | .str => (match P.underlying t with | some .string => true | _ => false)
  | .sl => (match P.underlying t with | some (.slice _) => true | _ => false)
  | .map => (match P.underlying t with | some (.map _ _) => true | _ => false)
theorem len_ok (hr : HR L w ρ H) {t ty : TypeId} {lk : LK} (ht : lkOk L.P t lk = true) {x v : AV} {xv : Value} (hx : VR L w ρ (Own ρ H) x xv) (h : lenA H lk x = some v) :
    ∃ y, (Builtin.len_ #[t] ty #[xv]).run L.P w = .ok y w ∧ VR L w ρ (Own ρ H) v y := by
  unfold lenA at h
  cases lk with
  | str =>
    simp only [lkOk] at ht
    split at ht
    case h_2 => cases ht
    rename_i hu
    cases hx <;> (try (exact nomatch (show (none : Option AV) = some v from h)))
    rename_i s
    replace h := Option.some.inj h
    subst h
    refine ⟨goInt s.size, by simp [Builtin.len_, run_underlying1 hu], ?_⟩
    have : (s.data.toList.length : Int) = s.size := by rw [Array.length_toList]; rfl
    rw [this]; exact .int _ _
  | sl =>
    simp only [lkOk] at ht
    split at ht
    case h_2 => cases ht
    rename_i hu
    cases hx <;> (try (exact nomatch (show (none : Option AV) = some v from h)))
    all_goals
      replace h := Option.some.inj h
      subst h
      exact ⟨_, by simp [Builtin.len_, run_underlying1 hu]; rfl, .int _ _⟩
  | map =>
    simp only [lkOk] at ht
    split at ht
    case h_2 => cases ht
    rename_i hu
    cases hx <;> (try (exact nomatch (show (none : Option AV) = some v from h)))
    · replace h := Option.some.inj h
      subst h
      exact ⟨_, by simp [Builtin.len_, run_underlying1 hu]; rfl, .int _ _⟩
    · rename_i b c hb
      simp only at h
      split at h
      · rename_i ks vs hx
        injection h with h; subst h
        obtain ⟨_, es, hw, hk, _, _⟩ := hr.blk b c 0 _ hb hx
        have hl := hk.length
        simp at hl
        exact ⟨goInt es.size, by simp [Builtin.len_, run_underlying1 hu, run_getMap hw], by rw [hl]; exact .int _ _⟩
      · cases h
    · rename_i ks vs es clock c hw ho hk hv
      replace h := Option.some.inj h
      subst h
      have hl := hk.length
      simp at hl
      exact ⟨goInt es.size, by simp [Builtin.len_, run_underlying1 hu, run_getMap hw], by rw [hl]; exact .int _ _⟩

/-! ### Conversions -/
def intTo (P : Program) (t : TypeId) (k : IntKind) : Bool := match P.underlying t with | some (.int k') => decide (k = k') | _ => false
def hasTy (P : Program) (t : TypeId) : Bool := (P.underlying t).isSome
theorem toInt_ok {own : Nat → Prop} {s d : TypeId} {k : IntKind} (hs : hasTy L.P s = true) (hd : intTo L.P d k = true) {x : AV} {xv : Value} (hx : VR L w ρ own x xv) {k' : IntKind} {n : Int} (h : x = .int k' n) :
    (convert s d xv).run L.P w = .ok (.int k (k.wrap n)) w := by
  subst h
  cases hx
  unfold intTo at hd
  split at hd
  · rename_i k2 hu
    simp at hd; subst hd
    obtain ⟨ds, hds⟩ := Option.isSome_iff_exists.1 hs
    simp only [convert, Sem.run_bind, run_underlying1 hds, run_underlying1 hu, Result.andThen_ok, Conv.intToInt, Sem.run_pure]
  · cases hd
def strTo (P : Program) (s d : TypeId) (bs : Bool) : Bool :=
  (match P.underlying d with | some .string => true | _ => false) &&
  (if bs then (match P.underlying s with | some (.slice e) => (match P.underlying e, P.info? e with | some (.int .u8), some i => i.size == 1 | _, _ => false) | _ => false) else hasTy P s)
theorem bytes_nums : ∀ (cs : List AV) (xs : List Value) (t : Str) {own : Nat → Prop}, VRs L w ρ own cs xs → bytesOfCells cs = some t → ∃ ns : List Int, xs = ns.map (Value.int .u8) ∧ t = ns.map fun n => UInt8.ofNat n.toNat
  | [], xs, t, own, hv, h => by
    cases hv
    simp [bytesOfCells] at h; subst h
    exact ⟨[], rfl, rfl⟩
  | c :: cs, xs, t, own, hv, h => by
    cases hv with
    | @cons _ _ x q h1 h2 =>
    unfold bytesOfCells at h
    split at h
    · rename_i e; cases e
    · rename_i n r e
      injection e with e1 e2
      subst e1; subst e2
      cases h1
      obtain ⟨t', h3, h4⟩ := Option.map_eq_some_iff.1 h
      subst h4
      obtain ⟨ns, h5, h6⟩ := bytes_nums cs q t' h2 h3
      exact ⟨n :: ns, by rw [h5]; rfl, by rw [h6]; rfl⟩
    · cases h
theorem foldl_push : ∀ (ns : List Int) (s : ByteArray), ns.foldl (fun r n => r.push (UInt8.ofNat n.toNat)) s = ⟨s.data ++ (ns.map fun n => UInt8.ofNat n.toNat).toArray⟩
  | [], s => by simp
  | n :: ns, s => by
    rw [List.foldl_cons, foldl_push ns]
    simp [ByteArray.push]
theorem bytesToString_ok {own : Nat → Prop} {cs : List AV} {xs : List Value} {t : Str} (hv : VRs L w ρ own cs xs) (h : bytesOfCells cs = some t) {a : Addr} {n c : Nat} (hl : (loadCells a n).run L.P w = .ok xs.toArray w) :
    (Conv.bytesToString (.slice (some a) n c)).run L.P w = .ok (.string ⟨t.toArray⟩) w := by
  obtain ⟨ns, rfl, rfl⟩ := bytes_nums cs xs t hv h
  rw [run_bytesToString w a n c ns hl, foldl_push]
  have : (ByteArray.empty).data = #[] := rfl
  rw [this, Array.empty_append]
theorem toStr_ok (hr : HR L w ρ H) {s d : TypeId} {bs : Bool} (ht : strTo L.P s d bs = true) {x v : AV} {xv : Value} (hx : VR L w ρ (Own ρ H) x xv) (h : toStrA H bs x = some v) :
    ∃ y, (convert s d xv).run L.P w = .ok y w ∧ VR L w ρ (Own ρ H) v y := by
  unfold strTo at ht
  simp only [Bool.and_eq_true] at ht
  obtain ⟨h1, h2⟩ := ht
  split at h1
  case h_2 => cases h1
  rename_i hud
  unfold toStrA at h
  cases bs with
  | false =>
    simp only [Bool.false_eq_true, if_false] at h2
    obtain ⟨ds, hds⟩ := Option.isSome_iff_exists.1 h2
    cases hx <;> (try (exact nomatch (show (none : Option AV) = some v from h)))
    · rename_i k n
      replace h := Option.some.inj h
      subst h
      refine ⟨.string (Utf8.encode n), by simp only [convert, Sem.run_bind, run_underlying1 hds, run_underlying1 hud, Result.andThen_ok, Conv.intToString, Sem.run_pure], .str _⟩
    · rename_i b
      replace h := Option.some.inj h
      subst h
      refine ⟨.string b, by simp only [convert, Sem.run_bind, run_underlying1 hds, run_underlying1 hud, Result.andThen_ok, Sem.run_pure], .str _⟩
  | true =>
    simp only [if_true] at h2
    split at h2
    case h_2 => cases h2
    rename_i e hus
    split at h2
    case h_2 => cases h2
    rename_i i hue hie
    simp only [beq_iff_eq] at h2
    have go : ∀ a n c, (convert s d (.slice a n c)).run L.P w = (Conv.bytesToString (.slice a n c)).run L.P w := by
      intro a n c
      simp only [convert, Sem.run_bind, run_underlying1 hus, run_underlying1 hud, run_underlying1 hue, Result.andThen_ok]
    cases hx <;> (try (exact nomatch (show (none : Option AV) = some v from h)))
    · replace h := Option.some.inj h
      subst h
      exact ⟨.string .empty, by rw [go]; simp [Conv.bytesToString], .str ByteArray.empty⟩
    · rename_i b off len sh c base cap a hb hlc hcap
      simp only at h
      split at h
      case h_2 => cases h
      rename_i cs n he
      obtain ⟨t, h3, h4⟩ := Option.map_eq_some_iff.1 h
      subst h4
      obtain ⟨hlen, hcl, _, xs, hv, hrun⟩ := elems_ok hr (VR.sl hb hlc hcap) he
      rw [run_lenOf_sl] at hlen
      injection hlen with hn
      subst hn
      have hf := hrun w rfl
      simp [Builtin.firstCells] at hf
      exact ⟨.string ⟨t.toArray⟩, by rw [go]; exact bytesToString_ok hv h3 hf, by have := VR.str (L := L) (w := w) (ρ := ρ) (own := Own ρ H) ⟨t.toArray⟩; simpa using this⟩
    · rename_i xs vals a c hv hi hl hc ho
      simp only at h
      split at h
      case h_2 => cases h
      rename_i cs n he
      obtain ⟨t, h3, h4⟩ := Option.map_eq_some_iff.1 h
      subst h4
      obtain ⟨hlen, hcl, _, xs', hv', hrun⟩ := elems_ok hr (VR.data hv hi hl hc ho) he
      rw [run_lenOf_sl] at hlen
      injection hlen with hn
      subst hn
      have hf := hrun w rfl
      simp [Builtin.firstCells] at hf
      exact ⟨.string ⟨t.toArray⟩, by rw [go]; exact bytesToString_ok hv' h3 hf, by have := VR.str (L := L) (w := w) (ρ := ρ) (own := Own ρ H) ⟨t.toArray⟩; simpa using this⟩

/-! ### clear -/
theorem zeroCells_list (z : Array Value) (n : Nat) : (Builtin.zeroCells z n).toList = (List.replicate n z.toList).flatten := by
  have := rep_range z n
  unfold Builtin.zeroCells
  simpa using this
theorem clear_ok (hr : HR L w ρ H) {t e ty : TypeId} (hu : L.P.underlying t = some (.slice e)) {zero : List AV} (hz : zeroOk L.P e zero = true) {x v : AV} {xv : Value} (hx : VR L w ρ (Own ρ H) x xv) {H' : Heap}
    (h : clearA zero x H = some (v, H')) :
    ∃ z w', (Builtin.clear_ #[t] ty #[xv]).run L.P w = .ok z w' ∧ Ext w ρ H w' ρ H' ∧ HR L w' ρ H' ∧ VR L w' ρ (Own ρ H') v z := by
  have vu : ∀ {w' : World} {own : Nat → Prop}, VR L w' ρ own (.tup []) (.tuple #[]) := VR.tup .nil
  cases hx <;> (try (exact nomatch (show (none : Option (AV × Heap)) = some (v, H') from h)))
  · replace h := Option.some.inj h
    injection h with h1 h2; subst h1; subst h2
    exact ⟨.tuple #[], w, by simp [Builtin.clear_, run_underlying1 hu], Ext.refl _ _ _, hr, vu⟩
  · rename_i b off ln sh c base cap a hb hlc hcap
    simp only [clearA] at h
    split at h
    · rename_i h0
      replace h := Option.some.inj h
      injection h with h1 h2; subst h1; subst h2; subst h0
      exact ⟨.tuple #[], w, by simp [Builtin.clear_, run_underlying1 hu], Ext.refl _ _ _, hr, vu⟩
    · rename_i h0
      split at h
      case h_2 => cases h
      rename_i sz tag fz cs hbx
      split at h
      case isFalse => cases h
      rename_i hc
      obtain ⟨rfl, hzl, hfz, hle⟩ := hc
      replace h := Option.some.inj h
      injection h with h1 h2; subst h1; subst h2
      obtain ⟨rfl, _⟩ := hcap (by omega)
      unfold zeroOk at hz
      split at hz
      case h_2 => cases hz
      rename_i i hi
      split at hz
      case h_2 => cases hz
      rename_i zv hzv
      simp only [Bool.and_eq_true, beq_iff_eq] at hz
      obtain ⟨⟨hz1, hz2⟩, hz3⟩ := hz
      obtain ⟨hv0, hc0⟩ := mVL_ok (L := L) (w := w) (ρ := ρ) (own := Own ρ H) hz1
      have hrl : (repC zero ln).length = ln * szOf sh := by rw [repC_len, hzl]
      obtain ⟨w', h1, h2, h3⟩ := write_cells hr hb (repC_VRs hv0 ln) (repC_cell hc0 ln) hbx (.inr ⟨_, _, _, cs, rfl, hfz, by rw [hrl]; exact hle, rfl⟩)
      refine ⟨.tuple #[], w', ?_, h2, h3, vu⟩
      have hzr : (zeroValue e).run L.P w = .ok zv w := by simp [zeroValue, typeInfo, hi, hzv]
      have hst : (storeCells ⟨c, base + off, none⟩ (Builtin.zeroCells zv.cells ln).toList).run L.P w = .ok () w' := by
        rw [zeroCells_list]; exact h1
      obtain ⟨ln', rfl⟩ : ∃ k, ln = k + 1 := ⟨ln - 1, by omega⟩
      simp [Builtin.clear_, run_underlying1 hu, hzr, hst]
end
end Go.AM

/- copy, unsafe.SliceData, unsafe.String. -/
namespace Go.AM
set_option linter.unusedVariables false
set_option linter.unusedSimpArgs false

section
variable {L : Link} {w : World} {ρ : Map} {H : Heap}

/-! ### What bytes lie where -/
theorem rowAt_bytes {P : Program} {e : TypeId} {fits : TypeId → Bool} (hf : fits e = true) (hc : P.cellsOf e = 1) {d count off n : Nat} (hn : off + n ≤ count) : rowAt P fits (d + 1) e count off n = true := by
  simp [rowAt, hc, hn, hf, Nat.mod_one]
theorem liesAt_u8 {P : Program} {e u : TypeId} (he : P.underlying e = some (.int .u8)) (hu : P.underlying u = some (.int .u8)) (hc : P.cellsOf e = 1) (count off n : Nat) (hn : off + n ≤ count) : liesAt P P.depth e count off u n = true := by
  have hd : P.depth = (2 * (P.types.size + Made.depth) + 1) + 1 := rfl
  rw [hd]
  simp only [liesAt, Bool.or_eq_true]
  left
  rw [hd]
  refine rowAt_bytes ?_ hc hn
  simp [sameLayout, he, hu]
theorem bytes_in : ∀ {cs : List AV} {t : Str}, bytesOfCells cs = some t → t.length = cs.length
  | [], t, h => by simp [bytesOfCells] at h; subst h; rfl
  | c :: cs, t, h => by
    unfold bytesOfCells at h
    split at h
    · rename_i e; cases e
    · rename_i n r e
      injection e with e1 e2
      subst e1; subst e2
      obtain ⟨t', h3, h4⟩ := Option.map_eq_some_iff.1 h
      subst h4
      simp [bytes_in h3]
    · cases h

theorem loadBytes_ok {P : Program} : ∀ (ns : List Int) (a : Addr) (acc : ByteArray), (∀ j x, (ns.map (Value.int .u8))[j]? = some x → w.cell? (a.add j) = some x) →
    (loadBytes a acc ns.length).run P w = .ok ⟨acc.data ++ (ns.map fun n => UInt8.ofNat n.toNat).toArray⟩ w
  | [], a, acc, _ => by simp [loadBytes]
  | n :: ns, a, acc, h => by
    have h0 : w.cell? a = some (.int .u8 n) := by
      have := h 0 (.int .u8 n) rfl
      simpa [Addr.add] using this
    have ih := loadBytes_ok (P := P) ns (a.add 1) (acc.push (UInt8.ofNat n.toNat)) (fun j y hy => by
      have := h (j + 1) y (by simpa using hy)
      have e : (a.add 1).add j = a.add (j + 1) := by rw [Addr.add_add, Nat.add_comm 1 j]
      rw [e]; exact this)
    have hx : (n.toNat).toUInt8 = UInt8.ofNat n.toNat := rfl
    simp only [List.length_cons, loadBytes, Sem.run_bind, run_load, h0, Result.andThen, hx]
    rw [ih]
    congr 1
    apply ByteArray.ext
    simp [ByteArray.push]

theorem freeze_heap {w : World} {a : Addr} {n : Nat} (hn : n ≠ 0) {cs : Array Value} {ty : TypeId} {fr : Nat × Nat} (hw : w.heap[a.block]? = some (.cells cs ty fr)) :
    ∃ fr', (w.freeze a n).heap[a.block]? = some (.cells cs ty fr') ∧ fr'.2 ≤ Nat.max fr.2 (a.off + n) := by
  obtain ⟨lo, hi⟩ := fr
  unfold World.freeze
  rw [if_neg hn]
  simp only [Array.getElem?_modify, if_true, hw, Option.map_some]
  refine ⟨_, rfl, ?_⟩
  split
  · exact Nat.le_max_right _ _
  · exact Nat.le_refl _
theorem freeze_other {w : World} {a : Addr} {n : Nat} (k : Nat) (hk : k ≠ a.block) : (w.freeze a n).heap[k]? = w.heap[k]? := by
  unfold World.freeze
  split
  · rfl
  · simp only [Array.getElem?_modify]
    rw [if_neg (fun e => hk e.symm)]
theorem freeze_rest (w : World) (a : Addr) (n : Nat) : (w.freeze a n).os = w.os ∧ (w.freeze a n).tape = w.tape ∧ (w.freeze a n).output = w.output ∧ (w.freeze a n).heap.size = w.heap.size := by
  unfold World.freeze
  split <;> simp

def ptrTo8 (P : Program) (t : TypeId) : Bool := match P.underlying t with | some (.pointer u) => (match P.underlying u with | some (.int .u8) => true | _ => false) | _ => false
theorem ptrTo8_ok {P : Program} {t : TypeId} (h : ptrTo8 P t = true) : ∃ u, P.underlying t = some (.pointer u) ∧ P.underlying u = some (.int .u8) := by
  unfold ptrTo8 at h
  split at h
  case h_2 => cases h
  rename_i u hu
  split at h
  case h_2 => cases h
  rename_i h8
  exact ⟨u, hu, h8⟩

def sdataA : AV → Option AV
  | .nils => some .nilp
  | .sl b off ln _ => if 0 < ln then some (.ptr b off) else none
  | _ => none
theorem sdata_ok {x v : AV} {xv : Value} {ty : TypeId} {ts : Array TypeId} (hx : VR L w ρ (Own ρ H) x xv) (h : sdataA x = some v) :
    ∃ y, (Builtin.unsafeSliceData_ ts ty #[xv]).run L.P w = .ok y w ∧ VR L w ρ (Own ρ H) v y := by
  cases hx <;> (try (exact nomatch (show (none : Option AV) = some v from h)))
  · replace h := Option.some.inj h
    subst h
    exact ⟨_, Lib.run_unsafeSliceData_nil w ts ty 0 0, .nilp⟩
  · rename_i b off len sh c base cap a hb hlc hcap
    simp only [sdataA] at h
    split at h
    case isFalse => cases h
    rename_i hlen
    injection h with h; subst h
    obtain ⟨rfl, _⟩ := hcap (by omega)
    exact ⟨_, Lib.run_unsafeSliceData_row w ts ty _ len cap (by omega), .ptr hb⟩

def ustrA (p : AV) (n : Option Nat) (H : Heap) : Option (AV × Heap) :=
  match p, n with
    | .nilp, some 0 => some (.str [], H)
    | .ptr _ _, some 0 => some (.str [], H)
    | .ptr b off, some n => match H[b]? with
      | some (.arr sz tag fz cs) =>
        if sz = 1 ∧ tag = 1 ∧ off + n ≤ cs.length ∧ n < 9223372036854775808 then (bytesOfCells ((cs.drop off).take n)).map fun t => (.str t, H.set b (.arr sz tag (Nat.max fz (off + n)) cs)) else none
      | _ => none
    | _, _ => none
theorem ustr_def {p : Option Addr} {pt it ty : TypeId} {k : IntKind} {n : Nat} : Builtin.unsafeString_ #[pt, it] ty #[.pointer p, .int k n] =
      (do
        let n ← asInt (.int k n)
        let some pt := (#[pt, it] : Array TypeId)[0]? | stuck "unsafe.String: no argument types"
        if n < 0 then runtimePanic (.error "unsafe.String: len out of range")
        if n > IntKind.i64.max then unsupported (.unsafePointer "String: a length above the largest int")
        match p with
        | none =>
          if n = 0 then pure (.string .empty)
          else runtimePanic (.error "unsafe.String: ptr is nil and len is not zero")
        | some a =>
          if n = 0 then pure (.string .empty)
          else if ← variablesAt a (← elemOf pt) n.toNat then do
            let s ← loadBytes a .empty n.toNat
            freeze a n.toNat
            pure (.string s)
          else unsupported (.unsafePointer "String: not so many bytes at ptr")) := rfl
theorem ustr_ok (hr : HR L w ρ H) {p m v : AV} {pv mv : Value} {n : Nat} {pt it ty : TypeId} (ht : ptrTo8 L.P pt = true) (hp : VR L w ρ (Own ρ H) p pv) (hm : VR L w ρ (Own ρ H) m mv) (hn : evNat m = some n) {H' : Heap}
    (h : ustrA p (some n) H = some (v, H')) :
    ∃ x w', (Builtin.unsafeString_ #[pt, it] ty #[pv, mv]).run L.P w = .ok x w' ∧ Ext w ρ H w' ρ H' ∧ HR L w' ρ H' ∧ VR L w' ρ (Own ρ H') v x := by
  obtain ⟨k, rfl⟩ := evNat_ok hm hn
  obtain ⟨u, hu1, hu2⟩ := ptrTo8_ok ht
  have hmax : IntKind.i64.max = 9223372036854775807 := rfl
  have nonneg : ¬ ((n : Int) < 0) := by omega
  unfold ustrA at h
  split at h
  · rename_i h0
    injection h0 with h0; subst h0
    injection h with h; injection h with h1 h2; subst h1; subst h2
    cases hp
    refine ⟨.string .empty, w, ?_, Ext.refl _ _ _, hr, by have := VR.str (L := L) (w := w) (ρ := ρ) (own := Own ρ H) ByteArray.empty; simpa using this⟩
    rw [ustr_def]
    simp [asInt, asIntOf, hmax]
  · rename_i b off h0
    injection h0 with h0; subst h0
    injection h with h; injection h with h1 h2; subst h1; subst h2
    cases hp
    refine ⟨.string .empty, w, ?_, Ext.refl _ _ _, hr, by have := VR.str (L := L) (w := w) (ρ := ρ) (own := Own ρ H) ByteArray.empty; simpa using this⟩
    rw [ustr_def]
    simp [asInt, asIntOf, hmax]
  · rename_i b off m' hn0 h0
    injection h0 with h0; subst h0
    have hn0 : n ≠ 0 := fun e => hn0 (by rw [e])
    split at h
    case h_2 => cases h
    rename_i sz tag fz cs hx
    split at h
    case isFalse => cases h
    rename_i hc
    obtain ⟨rfl, rfl, hle, h63⟩ := hc
    obtain ⟨t, ht1, ht2⟩ := Option.map_eq_some_iff.1 h
    injection ht2 with h1 h2; subst h1; subst h2
    cases hp with
    | @ptr _ _ c base hb =>
    obtain ⟨full, ty', fr, hw, hlf, hvv, hfr, htag, hic⟩ := hr.blk b c base _ hb hx
    obtain ⟨_, hu8, hc1⟩ := htag rfl
    have hsub : VRs L w ρ (Own ρ H) ((cs.drop off).take n) ((full.toList.drop (base + off)).take n) := by
      have := (hvv.drop off).take n
      rwa [seg_read (by omega)] at this
    obtain ⟨ns, e1, e2⟩ := bytes_nums _ _ _ hsub ht1
    have hnl : ns.length = n := by
      have := congrArg List.length e1
      simp at this
      omega
    have hlive : live H b := live_of hx (by simp)
    have hfull : base + off + n ≤ full.size := by omega
    have hcell : ∀ j x, (ns.map (Value.int .u8))[j]? = some x → w.cell? ((⟨c, base + off, none⟩ : Addr).add j) = some x := by
      intro j x hx
      rw [← e1, List.getElem?_take] at hx
      rw [Addr.plain_add, cell_of_row w c _ full ty' fr hw]
      split at hx
      · rw [List.getElem?_drop] at hx; simpa using hx
      · cases hx
    have hlb := loadBytes_ok (P := L.P) ns ⟨c, base + off, none⟩ .empty hcell
    rw [hnl] at hlb
    obtain ⟨fr', hw', hfr'⟩ := freeze_heap (a := ⟨c, base + off, none⟩) hn0 hw
    obtain ⟨r1, r2, r3, r4⟩ := freeze_rest w ⟨c, base + off, none⟩ n
    have oth : ∀ k, k ≠ c → (w.freeze ⟨c, base + off, none⟩ n).heap[k]? = w.heap[k]? := fun k hk => freeze_other k hk
    have e : Ext w ρ H (w.freeze ⟨c, base + off, none⟩ n) ρ (H.set b (.arr 1 1 (Nat.max fz (off + n)) cs)) :=
      ext_set hb hlive (by simp) r1 r2 r3 r4 oth (fun cs' ty2 fr2 h => by
        rw [hw] at h; injection h with h; injection h with h1 h2 h3
        subst h1; subst h2; subst h3
        exact ⟨full, fr', hw', rfl⟩)
    refine ⟨.string ⟨t.toArray⟩, _, ?_, e, hr.set hb hlive (by simp) e r4 oth ⟨full, ty', fr', hw', hlf, hvv.ext e, ?_, fun _ => ⟨rfl, hu8, hc1⟩, hic⟩, by have := VR.str (L := L) (w := w.freeze ⟨c, base + off, none⟩ n) (ρ := ρ) (own := Own ρ (H.set b (.arr 1 1 (Nat.max fz (off + n)) cs))) ⟨t.toArray⟩; simpa using this⟩
    · rw [ustr_def]
      by_cases hbig : (n : Int) > IntKind.i64.max
      · exfalso
        rw [hmax] at hbig
        omega
      · have hsh : w.shape? c = some (ty', full.size) := by simp [World.shape?, hw]
        have hlies := liesAt_u8 hu8 hu2 hc1 (full.size / L.P.cellsOf ty') (base + off) n (by rw [hc1]; simpa using hfull)
        rw [hmax] at hbig
        have hbig' : ¬ (9223372036854775807 : Int) < (n : Int) := by omega
        subst e2
        have hlb' : (ByteArray.empty.data ++ (ns.map fun n => UInt8.ofNat n.toNat).toArray) = (ns.map fun n => UInt8.ofNat n.toNat).toArray := by simp
        rw [hlb'] at hlb
        simp [asInt, asIntOf, hmax, hbig', nonneg, hn0, variablesAt, hsh, elemOf, run_underlying1 hu1, hlies, hlb]
    · refine Nat.le_trans hfr' (Nat.max_le.2 ⟨Nat.le_trans hfr (Nat.add_le_add_left (Nat.le_max_left _ _) _), ?_⟩)
      show base + off + n ≤ base + Nat.max fz (off + n)
      have : off + n ≤ Nat.max fz (off + n) := Nat.le_max_right _ _
      omega
  · cases h
end
end Go.AM

/- Which operation of the program an operation of the A-machine stands for, as a program tells it; and: then it does what it does. -/
namespace Go.AM
set_option linter.unusedVariables false
set_option linter.unusedSimpArgs false

section
variable (L : Link) (E : Env)
def notInt (P : Program) (t : TypeId) : Bool := match P.underlying t with | some (.int _) | none => false | _ => true
def mOp (o : ROp) (p : Op) : Bool :=
  match o with
  | .mov x => (match p with | .move y | .assign y => mX L E y x | _ => false)
  | .pick c a b => (match p with | .pick c' a' b' => mX L E c' c && mX L E a' a && mX L E b' b | _ => false)
  | .box v => (match p with
    | .box _ y => mX L E y v
    | .alloc t => (match v with | .c z => zeroV L.P t z | _ => false)
    | _ => false)
  | .build zero qs => (match p with | .build t ps => mBuild L E t zero ps.toList qs | _ => false)
  | .bslice sh tag n zero qs => (match p with
    | .buildSlice t m ps => n == m && (match sliceOf L.P t with
      | some e => elemOk L.P e sh tag && zeroOk L.P e zero && decide (n * szOf sh ≤ 2 ^ 24) && mParts L E (fun i => some (i * szOf sh, szOf sh)) ps.toList qs
      | none => false)
    | _ => false)
  | .load sh a => (match p with | .load t b => mX L E b a && shOk L.P t sh | _ => false)
  | .store n a v => (match p with | .store t b y => mX L E b a && mX L E y v && sizeOk L.P t n | _ => false)
  | .nilchk x => (match p with | .nilCheck y => mX L E y x | _ => false)
  | .bin op x y => (match p with | .binOp op' _ a b _ => decide (op = op') && mX L E a x && mX L E b y | _ => false)
  | .eq k neg x y => (match p with | .binOp op t a b _ => decide (op = if neg then .neq else .eql) && eqTy L.P t k && eqLit k a b && mX L E a x && mX L E b y | _ => false)
  | .un op x => (match p with | .unOp op' _ a => decide (op = op') && mX L E a x | _ => false)
  | .toInt k x => (match p with | .convert s d a => hasTy L.P s && intTo L.P d k && mX L E a x | _ => false)
  | .toStr bs x => (match p with | .convert s d a => strTo L.P s d bs && mX L E a x | _ => false)
  | .mkfn g cp => (match p with | .makeFunc (.func f) fi cs => L.fn g == f && fi.size == 0 && mXs L E cs.toList cp | _ => false)
  | .mkmap => (match p with | .makeMap _ none => true | _ => false)
  | .slice sz x lo hi mx => (match p with
    | .slice t a l h m => mX L E a x && mXo L E l lo && mXo L E h hi && mXo L E m mx && (m.isNone || h.isSome) &&
      (match L.P.underlying t with | some (.slice e) => sizeOk L.P e sz && sz != 0 | some .string => sz == 0 | _ => false)
    | _ => false)
  | .faddr off x => (match p with
    | .fieldAddr t a i => mX L E a x && (match fieldOk L.P t i off with | some ft => (match L.P.info? ft with | some inf => inf.size != 0 | none => false) | none => false)
    | _ => false)
  | .field off sh x => (match p with | .field t a i => mX L E a x && (match fieldOk L.P t i off with | some ft => shOk L.P ft sh | none => false) | _ => false)
  | .iaddr sh x i => (match p with | .indexAddr t a j => mX L E a x && mX L E j i && (match sliceOf L.P t with | some e => shOk L.P e sh | none => false) | _ => false)
  | .aaddr n sh x i => (match p with | .indexAddr t a j => mX L E a x && mX L E j i && (match L.P.underlying t with | some (.array m e) => m == n && shOk L.P e sh | _ => false) | _ => false)
  | .index n sh x i => (match p with | .index t a j => mX L E a x && mX L E j i && (match L.P.underlying t with | some .string => n == 0 | some (.array m e) => m == n && shOk L.P e sh && n != 0 | _ => false) | _ => false)
  | .lookup kk zero m k ok => (match p with | .lookup t a j ok' => mX L E a m && mX L E j k && ok == ok' && (match mapOfT L.P t with | some (kt, et) => kkOk L.P kt kk && zeroV L.P et zero | none => false) | _ => false)
  | .mapupd kk m k v => (match p with
    | .mapUpdate t a j y | .insert t a j y => mX L E a m && mX L E j k && mX L E y v && (match mapOfT L.P t with | some (kt, _) => kkOk L.P kt kk | none => false)
    | _ => false)
  | .mapent kk zero m k => (match p with | .mapEntry t a j => mX L E a m && mX L E j k && (match mapOfT L.P t with | some (kt, et) => kkOk L.P kt kk && zeroV L.P et zero | none => false) | _ => false)
  | .entst m st v => (match p with | .entryStore _ a j y => mX L E a m && mX L E j st && mX L E y v | _ => false)
  | .ext x i => (match p with | .extract a j => mX L E a x && i == j | _ => false)
  | .mkif t x => (match p with | .makeInterface T a => L.ty t == T && mX L E a x && (match L.P.underlying T with | some (.interface _) | none => false | _ => true) | _ => false)
  | .call f args => (match p with | .call { callee := .value y, args := as, .. } => mX L E y f && mXs L E as.toList args | _ => false)
  | .fcall g args => (match p with | .call { callee := .value (.func f), args := as, .. } => L.fn g == f && mXs L E as.toList args | _ => false)
  | .app sh tag bytes x y => (match p with
    | .call { callee := .builtin .append, args := as, argTypes := ts } => (match as.toList, ts.toList with
      | [a, b], [t, u] => mX L E a x && mX L E b y && notInt L.P u && (match sliceOf L.P t with | some e => elemOk L.P e sh tag && bytesOk L.P e bytes && zsOk L.P e | none => false)
      | _, _ => false)
    | _ => false)
  | .appz sh tag bytes zero x n => (match p with
    | .call { callee := .builtin .append, args := as, argTypes := ts } => (match as.toList, ts.toList with
      | [a, b], [t, u] => mX L E a x && mX L E b n && (match L.P.underlying u with | some (.int _) => true | _ => false) && (match sliceOf L.P t with | some e => elemOk L.P e sh tag && bytesOk L.P e bytes && zsOk L.P e && zeroOk L.P e zero | none => false)
      | _, _ => false)
    | _ => false)
  | .len lk x => (match p with
    | .call { callee := .builtin .len, args := as, argTypes := ts } => (match as.toList, ts.toList with | [a], [t] => mX L E a x && lkOk L.P t lk | _, _ => false)
    | _ => false)
  | .cap x => (match p with
    | .call { callee := .builtin .cap, args := as, argTypes := ts } => (match as.toList, ts.toList with | [a], [t] => mX L E a x && (sliceOf L.P t).isSome | _, _ => false)
    | _ => false)
  | .clear zero x => (match p with
    | .call { callee := .builtin .clear, args := as, argTypes := ts } => (match as.toList, ts.toList with | [a], [t] => mX L E a x && (match sliceOf L.P t with | some e => zeroOk L.P e zero | none => false) | _, _ => false)
    | _ => false)
  | .min x y => (match p with
    | .call { callee := .builtin .min, args := as, .. } => (match as.toList with | [a, b] => mX L E a x && mX L E b y | _ => false)
    | _ => false)
  | .max x y => (match p with
    | .call { callee := .builtin .max, args := as, .. } => (match as.toList with | [a, b] => mX L E a x && mX L E b y | _ => false)
    | _ => false)
  | .sdata x => (match p with
    | .call { callee := .builtin .unsafeSliceData, args := as, .. } => (match as.toList with | [a] => mX L E a x | _ => false)
    | _ => false)
  | .ustr q n => (match p with
    | .call { callee := .builtin .unsafeString, args := as, argTypes := ts } => (match as.toList, ts.toList with
      | [a, b], [t, u] => mX L E a q && mX L E b n && ptrTo8 L.P t
      | _, _ => false)
    | _ => false)
  | .copy .. => false
end

/-- What a call comes to. -/
def CallOk (L : Link) (w : World) (ρ : Map) (H : Heap) (f : FuncId) (xs : Array Value) (v : AV) (H' : Heap) : Prop :=
  (∃ x w' ρ', (callFunc f xs).run L.P w = .ok (.value x) w' ∧ Ext w ρ H w' ρ' H' ∧ HR L w' ρ' H' ∧ VR L w' ρ' (Own ρ' H') v x) ∨
  ((callFunc f xs).run L.P w = .ok (.enter f xs) w ∧ Calls L.P f xs w fun e w' => ∃ x ρ', e = .returned x ∧ Ext w ρ H w' ρ' H' ∧ HR L w' ρ' H' ∧ VR L w' ρ' (Own ρ' H') v x)
def GL (L : Link) (E : Env) (w : World) (ρ : Map) (H : Heap) : Prop := ∀ g cs, E.glob g = some cs → VR L w ρ (Own ρ H) (.dptr cs) (.pointer (some ⟨g, 0, none⟩))
def CallS (L : Link) (E : Env) (cl : Nat → List AV → Heap → Option (AV × Heap)) : Prop :=
  ∀ g args H v H', cl g args H = some (v, H') → ∀ w ρ xs, HR L w ρ H → GL L E w ρ H → VRs L w ρ (Own ρ H) args xs → CallOk L w ρ H (L.fn g) xs.toArray v H'

section
variable {L : Link} {E : Env} {w : World} {ρ : Map} {H : Heap} {s : List AV} {a : Act}
/-- The next operations, whatever this one's value is, so it is told rightly. -/
def Goes (L : Link) (w : World) (ρ : Map) (H : Heap) (a : Act) (dst : Option Tmp) (v : AV) (H' : Heap) (next : Act → World → Prop) : Prop :=
  ∀ x w' ρ', Ext w ρ H w' ρ' H' → HR L w' ρ' H' → VR L w' ρ' (Own ρ' H') v x → next (a.put dst x) w'

theorem wp_value {o : Oper} {next : Act → World → Prop} {Q : Exit → Act → World → Prop} {x : Value} {w' : World} (h : (execOp a.eval o).run L.P w = .ok (.value x) w') (hn : next (a.put o.dst x) w') : o.wp L.P a w next Q := by
  unfold Oper.wp; rw [h]; exact hn
theorem wp_skip' {o : Oper} {next : Act → World → Prop} {Q : Exit → Act → World → Prop} {w' : World} (h : (execOp a.eval o).run L.P w = .ok .skip w') (hn : next (a.put o.dst Go.undef) w') : o.wp L.P a w next Q := by
  unfold Oper.wp; rw [h]; exact hn
theorem wp_runs {o : Oper} {next : Act → World → Prop} {Q : Exit → Act → World → Prop} {v : AV} {H' : Heap} (h : Runs L w ρ H ((execOp a.eval o).run L.P w) v H') (hK : Goes L w ρ H a o.dst v H' next) : o.wp L.P a w next Q := by
  obtain ⟨x, w', ρ', hr, he, hh, hv⟩ := h
  rcases hr with hr | ⟨hr, rfl⟩
  · exact wp_value hr (hK x w' ρ' he hh hv)
  · exact wp_skip' hr (hK _ w' ρ' he hh hv)
/-- A value that is reckoned without a change. -/
theorem runs_pure (hr : HR L w ρ H) {sem : Sem Value} {x : Value} {v : AV} (h : sem.run L.P w = .ok x w) (hv : VR L w ρ (Own ρ H) v x) : Runs L w ρ H ((do Pure.pure (Next.value (← sem)) : Sem Next).run L.P w) v H :=
  Runs.pure hr (exec_v h) hv
theorem runs_ex (hr : HR L w ρ H) {sem : Sem Value} {v : AV} (h : ∃ x, sem.run L.P w = .ok x w ∧ VR L w ρ (Own ρ H) v x) : Runs L w ρ H ((do Pure.pure (Next.value (← sem)) : Sem Next).run L.P w) v H := by
  obtain ⟨x, h1, h2⟩ := h; exact runs_pure hr h1 h2
theorem runs_unit {sem : Sem Unit} {H' : Heap} (h : ∃ w', sem.run L.P w = .ok () w' ∧ Ext w ρ H w' ρ H' ∧ HR L w' ρ H') : Runs L w ρ H ((do sem; Pure.pure Next.skip : Sem Next).run L.P w) undef H' := by
  obtain ⟨w', h1, h2, h3⟩ := h
  exact ⟨Go.undef, w', ρ, .inr ⟨by simp [h1], rfl⟩, h2, h3, VR.undef⟩
theorem runs_chg {sem : Sem Value} {v : AV} {H' : Heap} (h : ∃ x w', sem.run L.P w = .ok x w' ∧ Ext w ρ H w' ρ H' ∧ HR L w' ρ H' ∧ VR L w' ρ (Own ρ H') v x) : Runs L w ρ H ((do Pure.pure (Next.value (← sem)) : Sem Next).run L.P w) v H' := by
  obtain ⟨x, w', h1, h2, h3, h4⟩ := h
  exact ⟨x, w', ρ, .inl (exec_v h1), h2, h3, h4⟩
theorem runs_chg' {sem : Sem Value} {v : AV} {H' : Heap} (h : ∃ x w' ρ', sem.run L.P w = .ok x w' ∧ Ext w ρ H w' ρ' H' ∧ HR L w' ρ' H' ∧ VR L w' ρ' (Own ρ' H') v x) : Runs L w ρ H ((do Pure.pure (Next.value (← sem)) : Sem Next).run L.P w) v H' := by
  obtain ⟨x, w', ρ', h1, h2, h3, h4⟩ := h
  exact ⟨x, w', ρ', .inl (exec_v h1), h2, h3, h4⟩

theorem SR.evo (h : SR L E w ρ H s a) {x : Option Operand} {y : Option RX} (m : mXo L E x y = true) :
    (∀ v, y.map (RX.ev E s) = some v → ∃ z, x.map a.eval = some z ∧ VR L w ρ (Own ρ H) v z) ∧ (y.map (RX.ev E s) = none → x.map a.eval = none) := by
  cases x <;> cases y <;> simp [mXo] at m
  · simp
  · simpa using h.ev m

def isInt (d : TypeDesc) : Bool := d matches .int _
def apCells (zeros : Bool) (e : TypeId) (sz n : Nat) (y : Value) : Sem (Array Value) :=
  if !zeros then Builtin.firstCells sz n y
  else if n * sz = 0 then Pure.pure #[]
  else do Pure.pure (Builtin.zeroCells (← zeroValue e).cells n)
theorem append_run {P : Program} {t u ty e : TypeId} (ht : P.underlying t = some (.slice e)) {d : TypeDesc} (hu : P.underlying u = some d) (hd : (isInt d) = false) {base : Option Addr} {sLen sCap n sz : Nat} (hsz : ∀ w', (sizeOf e).run P w' = .ok sz w') {y : Value}
    (hn : (Builtin.lenOf y).run P w = .ok n w) : (Builtin.append_ #[t, u] ty #[.slice base sLen sCap, y]).run P w = (appRun e (isInt d) base sLen sCap sz n (apCells (isInt d) e sz n y) (.slice base sLen sCap) y).run P w := by
  have g0 : (#[t, u] : Array TypeId)[0]? = some t := rfl
  have g1 : (#[t, u] : Array TypeId)[1]? = some u := rfl
  have g2 : (#[Value.slice base sLen sCap, y] : Array Value)[0]? = some (.slice base sLen sCap) := rfl
  have g3 : (#[Value.slice base sLen sCap, y] : Array Value)[1]? = some y := rfl
  simp only [Builtin.append_, g0, g1, g2, g3, Sem.run_bind, run_underlying1 ht, run_underlying1 hu, Result.andThen_ok, hsz, Sem.run_pure]
  have hd' : ¬ (isInt d = true) := by rw [hd]; simp
  change (if isInt d = true then _ else _ : Sem Value).run P w = _
  rw [if_neg hd']
  simp only [Sem.run_bind, hn, Result.andThen_ok]
  rfl
theorem appendz_run {P : Program} {t u ty e : TypeId} (ht : P.underlying t = some (.slice e)) {d : TypeDesc} (hu : P.underlying u = some d) (hd : (isInt d) = true) {base : Option Addr} {sLen sCap n sz : Nat} (hsz : ∀ w', (sizeOf e).run P w' = .ok sz w') {k : IntKind} {i : TypeInfo} (hi : P.info? e = some i)
    (h63 : n < 9223372036854775808) (hby : n * i.bytes ≤ 140737488355328) : (Builtin.append_ #[t, u] ty #[.slice base sLen sCap, .int k n]).run P w = (appRun e (isInt d) base sLen sCap sz n (apCells (isInt d) e sz n (.int k n)) (.slice base sLen sCap) (.int k n)).run P w := by
  have g0 : (#[t, u] : Array TypeId)[0]? = some t := rfl
  have g1 : (#[t, u] : Array TypeId)[1]? = some u := rfl
  have g2 : (#[Value.slice base sLen sCap, Value.int k n] : Array Value)[0]? = some (.slice base sLen sCap) := rfl
  have g3 : (#[Value.slice base sLen sCap, Value.int k n] : Array Value)[1]? = some (Value.int k n) := rfl
  have hw : IntKind.i64.wrap (n : Int) = n := by simp [IntKind.wrap, IntKind.bits, IntKind.signed]; omega
  have hti : ∀ w', (typeInfo e).run P w' = .ok i w' := fun w' => by simp [typeInfo, hi]
  have h0 : ¬ (IntKind.i64.wrap (n : Int) < 0) := by rw [hw]; omega
  have h1 : ¬ (IntKind.i64.wrap (n : Int) * (i.bytes : Int) > 2 ^ 48) := by
    have : ((n * i.bytes : Nat) : Int) ≤ 140737488355328 := by omega
    rw [Int.natCast_mul] at this; rw [hw]; omega
  simp only [Builtin.append_, g0, g1, g2, g3, Sem.run_bind, run_underlying1 ht, run_underlying1 hu, Result.andThen_ok, hsz, Sem.run_pure]
  change (if isInt d = true then _ else _ : Sem Value).run P w = _
  rw [if_pos hd]
  simp only [Sem.run_bind, asInt, asIntOf, Sem.run_pure, Result.andThen_ok]
  rw [if_neg h0]
  simp only [Sem.run_bind, hti, Result.andThen_ok]
  rw [if_neg h1]
  simp only [Sem.run_bind, Sem.run_pure, Result.andThen_ok, hw, Int.toNat_natCast]
  rfl
end
end Go.AM

/- One operation is sound. -/
namespace Go.AM
set_option linter.unusedVariables false
set_option linter.unusedSimpArgs false

section
variable {L : Link} {E : Env} {cl : Nat → List AV → Heap → Option (AV × Heap)} {w : World} {ρ : Map} {H : Heap} {s : List AV} {a : Act}

theorem map_pure {x : Option AV} {v : AV} {H H' : Heap} (h : (x.map fun v => (v, H)) = some (v, H')) : x = some v ∧ H' = H := by
  obtain ⟨y, h1, h2⟩ := Option.map_eq_some_iff.1 h
  injection h2 with h2 h3
  subst h2; exact ⟨h1, h3.symm⟩
theorem map_heap {x : Option Heap} {v : AV} {H' : Heap} (h : (x.map fun H => (undef, H)) = some (v, H')) : x = some H' ∧ v = undef := by
  obtain ⟨y, h1, h2⟩ := Option.map_eq_some_iff.1 h
  injection h2 with h2 h3
  subst h3; exact ⟨h1, h2.symm⟩

theorem _root_.Go.AM.VR.bool_inv {own : Nat → Prop} {b : Bool} {x : Value} (h : VR L w ρ own (.bool b) x) : x = .bool b := by cases h; rfl
theorem evNat_int {x : AV} {n : Nat} (h : evNat x = some n) {own : Nat → Prop} {xv : Value} (hx : VR L w ρ own x xv) : ∃ k, xv = .int k (n : Int) := evNat_ok hx h
theorem sl_shape {own : Nat → Prop} {x : AV} {xv : Value} (hx : VR L w ρ own x xv) (h : (∃ b o l sh, x = .sl b o l sh) ∨ x = .nils) : ∃ base n c, xv = .slice base n c := by
  rcases h with ⟨b, o, l, sh, rfl⟩ | rfl
  · cases hx; exact ⟨_, _, _, rfl⟩
  · cases hx; exact ⟨_, _, _, rfl⟩
theorem append_shape {sh : Option Nat} {tag bytes n : Nat} {x : AV} {ys : List AV} {r : AV × Heap} (h : appendA sh tag bytes x ys n H = some r) : (∃ b o l sh, x = .sl b o l sh) ∨ x = .nils := by
  unfold appendA at h
  split at h
  · exact .inr rfl
  · exact .inl ⟨_, _, _, _, rfl⟩
  · cases h
theorem notInt_ok {P : Program} {t : TypeId} (h : notInt P t = true) : ∃ d, P.underlying t = some d ∧ isInt d = false := by
  unfold notInt at h
  split at h
  · cases h
  · cases h
  · rename_i h1 h2
    cases hu : P.underlying t with
    | none => exact absurd hu h2
    | some d =>
      refine ⟨d, rfl, ?_⟩
      cases d <;> first | rfl | (exact absurd hu (h1 _))
theorem sizeRun {P : Program} {e : TypeId} {sh : Option Nat} {tag : Nat} (he : elemOk P e sh tag = true) : ∀ w', (sizeOf e).run P w' = .ok (szOf sh) w' := fun w' => (shOk_run (elemOk_tag he).1 w').2.1

theorem op_sound (hs : SR L E w ρ H s a) (hcl : CallS L E cl) {dst : Option Tmp} {op : Op} {type : TypeId} {pos : String} {after : Array Edge} {guard : Option (Nat × Bool)} {ro : ROp} (m : mOp L E ro op = true) {v : AV} {H' : Heap} (h : ro.run E cl s H = some (v, H'))
    {next : Act → World → Prop} {Q : Exit → Act → World → Prop} (hK : Goes L w ρ H a dst v H' next) : Oper.wp L.P ⟨dst, op, type, pos, after, guard⟩ a w next Q := by
  cases ro with
  | mov x =>
    replace h : some (x.ev E s, H) = some (v, H') := h
    injection h with h; injection h with h1 h2; subst h1; subst h2
    simp only [mOp] at m
    split at m
    · exact wp_value (x := a.eval _) rfl (hK _ w ρ (Ext.refl _ _ _) hs.hr (hs.ev m))
    · exact wp_value (x := a.eval _) rfl (hK _ w ρ (Ext.refl _ _ _) hs.hr (hs.ev m))
    · cases m
  | pick c x y =>
    simp only [mOp] at m
    split at m
    case h_2 => cases m
    rename_i c' x' y'
    simp only [Bool.and_eq_true] at m
    obtain ⟨⟨m1, m2⟩, m3⟩ := m
    replace h : (match c.ev E s with | .bool t => some (if t then x.ev E s else y.ev E s, H) | _ => none) = some (v, H') := h
    have hc := hs.ev m1
    split at h
    · rename_i t hct
      rw [hct] at hc
      injection h with h; injection h with h1 h2; subst h1; subst h2
      have hcv : a.eval c' = .bool t := hc.bool_inv
      refine wp_value (x := if t then a.eval x' else a.eval y') ?_ (hK _ w ρ (Ext.refl _ _ _) hs.hr ?_)
      · show ((do Pure.pure (Next.value (if ← asBool (a.eval c') then a.eval x' else a.eval y')) : Sem Next)).run L.P w = _
        rw [hcv]; simp [asBool]
      · cases t
        · exact hs.ev m3
        · exact hs.ev m2
    · cases h
  | box x =>
    replace h : (if (x.ev E s).cells.all AV.isCell then some (AV.ptr H.length 0, H ++ [Blk.cells (x.ev E s).cells]) else none) = some (v, H') := h
    split at h
    case isFalse => cases h
    rename_i hi
    injection h with h; injection h with h1 h2; subst h1; subst h2
    simp only [mOp] at m
    split at m
    · exact wp_runs (box_ok hs.hr (hs.ev m) hi rfl) hK
    · rename_i t
      split at m
      case h_2 => cases m
      rename_i z
      obtain ⟨zv, h1, h2⟩ := zeroV_run (L := L) (w := w) (ρ := ρ) (own := Own ρ H) m
      refine wp_runs (box_ok (t := t) hs.hr h2 hi ?_) hK
      show ((do Pure.pure (Next.value (← Instr.alloc t true (.tuple #[]))) : Sem Next)).run L.P w = _
      simp [Instr.alloc, h1]
    · cases m
  | build zero qs =>
    simp only [mOp] at m
    split at m
    case h_2 => cases m
    obtain ⟨h1, rfl⟩ := map_pure (show ((fillA zero (evParts E s qs)).map AV.agg).map (fun v => (v, H)) = some (v, H') from h)
    obtain ⟨cs, h2, h3⟩ := Option.map_eq_some_iff.1 h1
    subst h3
    exact wp_runs (runs_ex hs.hr (build_ok hs m h2)) hK
  | bslice sh tag n zero qs =>
    simp only [mOp] at m
    split at m
    case h_2 => cases m
    simp only [Bool.and_eq_true, beq_iff_eq] at m
    obtain ⟨rfl, m⟩ := m
    split at m
    case h_2 => cases m
    rename_i e he
    simp only [Bool.and_eq_true, decide_eq_true_eq] at m
    obtain ⟨⟨⟨m1, m2⟩, m3⟩, m4⟩ := m
    obtain ⟨cs, h2, h3⟩ := Option.map_eq_some_iff.1 (show (fillA (repC zero n) (evParts E s qs)).map (fun cs => (AV.sl H.length 0 n sh, H ++ [Blk.arr (szOf sh) tag 0 cs])) = some (v, H') from h)
    injection h3 with h3 h4; subst h3; subst h4
    exact wp_runs (bslice_ok hs (sliceOf_ok he) m1 m2 m3 m4 h2 rfl) hK
  | load sh x =>
    simp only [mOp] at m
    split at m
    case h_2 => cases m
    simp only [Bool.and_eq_true] at m
    obtain ⟨h1, rfl⟩ := map_pure h
    exact wp_runs (runs_ex hs.hr (load_ok hs.hr m.2 (hs.ev m.1) h1)) hK
  | store n x y =>
    simp only [mOp] at m
    split at m
    case h_2 => cases m
    simp only [Bool.and_eq_true] at m
    obtain ⟨h1, rfl⟩ := map_heap h
    exact wp_runs (runs_unit (store_ok hs.hr m.2 (hs.ev m.1.1) (hs.ev m.1.2) h1)) hK
  | nilchk x =>
    simp only [mOp] at m
    split at m
    case h_2 => cases m
    rename_i y
    have hx := hs.ev m
    replace h : (match x.ev E s with | .ptr b o => some (AV.ptr b o, H) | .dptr cs => some (.dptr cs, H) | .fn g cp => some (.fn g cp, H) | _ => none) = some (v, H') := h
    split at h
    · rename_i b o he
      injection h with h; injection h with h1 h2; subst h1; subst h2
      rw [he] at hx
      cases hv : a.eval y with
      | pointer p =>
        rw [hv] at hx
        cases hx with
        | ptr hb =>
        refine wp_value (x := .pointer (some _)) ?_ (hK _ w ρ (Ext.refl _ _ _) hs.hr (.ptr hb))
        simp only [execOp, hv]; rfl
      | _ => rw [hv] at hx; cases hx
    · rename_i cs he
      injection h with h; injection h with h1 h2; subst h1; subst h2
      rw [he] at hx
      cases hv : a.eval y with
      | pointer p =>
        rw [hv] at hx
        have hx' := hx
        cases hx with
        | dptr _ _ _ _ =>
        refine wp_value (x := .pointer (some _)) ?_ (hK _ w ρ (Ext.refl _ _ _) hs.hr hx')
        simp only [execOp, hv]; rfl
      | _ => rw [hv] at hx; cases hx
    · rename_i g cp he
      injection h with h; injection h with h1 h2; subst h1; subst h2
      rw [he] at hx
      cases hv : a.eval y with
      | func f fi cs =>
        rw [hv] at hx
        have hx' := hx
        cases hx with
        | fn _ =>
        refine wp_value (x := .func _ _ _) ?_ (hK _ w ρ (Ext.refl _ _ _) hs.hr hx')
        simp only [execOp, hv]; rfl
      | _ => rw [hv] at hx; cases hx
    · cases h
  | bin bop x y =>
    simp only [mOp] at m
    split at m
    case h_2 => cases m
    simp only [Bool.and_eq_true, decide_eq_true_eq] at m
    obtain ⟨⟨rfl, m1⟩, m2⟩ := m
    obtain ⟨h1, rfl⟩ := map_pure h
    exact wp_runs (runs_ex hs.hr (binop_ok (hs.ev m1) (hs.ev m2) h1)) hK
  | eq k neg x y =>
    simp only [mOp] at m
    split at m
    case h_2 => cases m
    simp only [Bool.and_eq_true, decide_eq_true_eq] at m
    obtain ⟨⟨⟨⟨rfl, m1⟩, m2⟩, m3⟩, m4⟩ := m
    obtain ⟨h1, rfl⟩ := map_pure h
    exact wp_runs (runs_ex hs.hr (eq_ok hs.hr m1 m2 (hs.ev m3) (hs.ev m4) h1)) hK
  | un uop x =>
    simp only [mOp] at m
    split at m
    case h_2 => cases m
    simp only [Bool.and_eq_true, decide_eq_true_eq] at m
    obtain ⟨rfl, m1⟩ := m
    obtain ⟨h1, rfl⟩ := map_pure h
    exact wp_runs (runs_ex hs.hr (unop_ok (hs.ev m1) h1)) hK
  | toInt k x =>
    simp only [mOp] at m
    split at m
    case h_2 => cases m
    simp only [Bool.and_eq_true] at m
    replace h : (match x.ev E s with | .int _ n => some (AV.int k (k.wrap n), H) | _ => none) = some (v, H') := h
    split at h
    · rename_i k' n he
      injection h with h; injection h with h1 h2; subst h1; subst h2
      exact wp_runs (runs_pure hs.hr (toInt_ok m.1.1 m.1.2 (hs.ev m.2) he) (.int _ _)) hK
    · cases h
  | toStr bs x =>
    simp only [mOp] at m
    split at m
    case h_2 => cases m
    simp only [Bool.and_eq_true] at m
    obtain ⟨h1, rfl⟩ := map_pure h
    exact wp_runs (runs_ex hs.hr (toStr_ok hs.hr m.1 (hs.ev m.2) h1)) hK
  | mkfn g cp =>
    simp only [mOp] at m
    split at m
    case h_2 => cases m
    rename_i f fi cs
    simp only [Bool.and_eq_true, beq_iff_eq] at m
    obtain ⟨⟨m1, m2⟩, m3⟩ := m
    replace h : some (AV.fn g (cp.map (RX.ev E s)), H) = some (v, H') := h
    injection h with h; injection h with h1 h2; subst h1; subst h2
    have hfi : fi = #[] := Array.eq_empty_of_size_eq_zero m2
    subst hfi
    refine wp_value (x := .func (.func f) #[] (cs.map a.eval)) ?_ (hK _ w ρ (Ext.refl _ _ _) hs.hr ?_)
    · show ((do Pure.pure (Next.value (← Instr.makeFunc (.func f) (#[].map a.eval) (cs.map a.eval))) : Sem Next)).run L.P w = _
      simp [Instr.makeFunc]
    · have hv := VR.fn (g := g) (hs.evs m3)
      have e : (cs.toList.map a.eval).toArray = cs.map a.eval := by apply Array.ext'; simp
      rw [m1, e] at hv
      exact hv
  | mkmap =>
    simp only [mOp] at m
    split at m
    case h_2 => cases m
    replace h : some (AV.map H.length, H ++ [Blk.map [] []]) = some (v, H') := h
    injection h with h; injection h with h1 h2; subst h1; subst h2
    refine wp_runs (Runs.new hs.hr (x := .map (some w.heap.size)) (by simp) (.map #[] 0) { w with heap := w.heap.push (.map #[] 0) } rfl rfl rfl rfl ?_ ?_ ?_) hK
    · show ((do Pure.pure (Next.value (← Instr.makeMap _ none)) : Sem Next)).run L.P w = _
      simp [Instr.makeMap]
    · intro ρ' H' e
      exact ⟨rfl, #[], by simp, .nil, .nil, fun i h => by simp at h⟩
    · intro ρ' own hb; exact .map hb
  | slice sz x lo hi mx =>
    simp only [mOp] at m
    split at m
    case h_2 => cases m
    rename_i t b l hh mm
    simp only [Bool.and_eq_true, Bool.or_eq_true] at m
    obtain ⟨⟨⟨⟨⟨m1, m2⟩, m3⟩, m4⟩, m5⟩, m6⟩ := m
    obtain ⟨h1, rfl⟩ := map_pure h
    obtain ⟨a1, a2⟩ := hs.evo m2
    obtain ⟨b1, b2⟩ := hs.evo m3
    obtain ⟨c1, c2⟩ := hs.evo m4
    refine wp_runs (runs_ex hs.hr (slice_ok hs.hr (sz := sz) (t := t) ?_ (hs.ev m1) a1 a2 b1 b2 c1 c2 ?_ h1)) hK
    · split at m6
      · rename_i e hu
        simp only [Bool.and_eq_true, bne_iff_ne] at m6
        exact .inl ⟨e, hu, m6.1, m6.2⟩
      · rename_i hu
        simp only [beq_iff_eq] at m6
        exact .inr ⟨hu, m6⟩
      · cases m6
    · intro hsome
      cases mx with
      | none => simp at hsome
      | some q =>
        cases mm with
        | none => simp [mXo] at m4
        | some q' =>
          simp at m5
          cases hi with
          | none => cases hh <;> simp [mXo] at m3 m5
          | some _ => simp
  | faddr off x =>
    simp only [mOp] at m
    split at m
    case h_2 => cases m
    rename_i t b i
    simp only [Bool.and_eq_true] at m
    obtain ⟨m1, m2⟩ := m
    split at m2
    case h_2 => cases m2
    rename_i ft hf
    split at m2
    case h_2 => cases m2
    rename_i inf hi
    simp only [bne_iff_ne] at m2
    obtain ⟨h1, rfl⟩ := map_pure h
    exact wp_runs (runs_ex hs.hr (faddr_ok hf (n := inf.size) (by simp [sizeOk, hi]) m2 (hs.ev m1) h1)) hK
  | field off sh x =>
    simp only [mOp] at m
    split at m
    case h_2 => cases m
    rename_i t b i
    simp only [Bool.and_eq_true] at m
    obtain ⟨m1, m2⟩ := m
    split at m2
    case h_2 => cases m2
    rename_i ft hf
    replace h : (match x.ev E s with | .agg cs => (mkv sh (cs.drop off)).map (fun v => (v, H)) | _ => none) = some (v, H') := h
    have hx := hs.ev m1
    split at h
    · rename_i cs he
      rw [he] at hx
      obtain ⟨h1, rfl⟩ := map_pure h
      exact wp_runs (runs_ex hs.hr (field_ok hf m2 hx h1)) hK
    · cases h
  | iaddr sh x i =>
    simp only [mOp] at m
    split at m
    case h_2 => cases m
    simp only [Bool.and_eq_true] at m
    obtain ⟨⟨m1, m2⟩, m3⟩ := m
    split at m3
    case h_2 => cases m3
    rename_i e he
    obtain ⟨h1, rfl⟩ := map_pure h
    exact wp_runs (runs_ex hs.hr (iaddr_ok (sliceOf_ok he) m3 (hs.ev m1) (hs.ev m2) h1)) hK
  | aaddr n sh x i =>
    simp only [mOp] at m
    split at m
    case h_2 => cases m
    simp only [Bool.and_eq_true] at m
    obtain ⟨⟨m1, m2⟩, m3⟩ := m
    split at m3
    case h_2 => cases m3
    rename_i n' e he
    simp only [Bool.and_eq_true, beq_iff_eq] at m3
    obtain ⟨rfl, m3⟩ := m3
    obtain ⟨h1, rfl⟩ := map_pure h
    exact wp_runs (runs_ex hs.hr (aaddr_ok he m3 (hs.ev m1) (hs.ev m2) h1)) hK
  | index n sh x i =>
    simp only [mOp] at m
    split at m
    case h_2 => cases m
    rename_i t b j
    simp only [Bool.and_eq_true] at m
    obtain ⟨⟨m1, m2⟩, m3⟩ := m
    obtain ⟨h1, rfl⟩ := map_pure h
    refine wp_runs (runs_ex hs.hr (index_ok (t := t) (m := n) (sh := sh) ?_ (hs.ev m1) (hs.ev m2) h1)) hK
    split at m3
    · rename_i hu; simp only [beq_iff_eq] at m3; exact .inl ⟨hu, m3⟩
    · rename_i n' e hu
      simp only [Bool.and_eq_true, beq_iff_eq, bne_iff_ne] at m3
      obtain ⟨⟨rfl, m4⟩, m5⟩ := m3
      exact .inr ⟨e, hu, m4, m5⟩
    · cases m3
  | lookup kk zero mm k ok =>
    simp only [mOp] at m
    split at m
    case h_2 => cases m
    simp only [Bool.and_eq_true, beq_iff_eq] at m
    obtain ⟨⟨⟨m1, m2⟩, rfl⟩, m3⟩ := m
    split at m3
    case h_2 => cases m3
    rename_i kt et hm
    simp only [Bool.and_eq_true] at m3
    obtain ⟨h1, rfl⟩ := map_pure h
    exact wp_runs (runs_ex hs.hr (lookup_ok hs.hr (mapOfT_ok hm) m3.1 m3.2 (hs.ev m1) (hs.ev m2) h1)) hK
  | mapupd kk mm k x =>
    simp only [mOp] at m
    obtain ⟨h1, rfl⟩ := map_heap h
    split at m
    case h_3 => cases m
    all_goals
      simp only [Bool.and_eq_true] at m
      obtain ⟨⟨⟨m1, m2⟩, m3⟩, m4⟩ := m
      split at m4
      case h_2 => cases m4
      rename_i kt et hm
      exact wp_runs (runs_unit (mapupd_ok hs.hr (mapOfT_ok hm) m4 (hs.ev m1) (hs.ev m2) (hs.ev m3) h1)) hK
  | mapent kk zero mm k =>
    simp only [mOp] at m
    split at m
    case h_2 => cases m
    simp only [Bool.and_eq_true] at m
    obtain ⟨⟨m1, m2⟩, m3⟩ := m
    split at m3
    case h_2 => cases m3
    rename_i kt et hm
    simp only [Bool.and_eq_true] at m3
    exact wp_runs (runs_chg (mapent_ok hs.hr (mapOfT_ok hm) m3.1 m3.2 (hs.ev m1) (hs.ev m2) h)) hK
  | entst mm st x =>
    simp only [mOp] at m
    split at m
    case h_2 => cases m
    simp only [Bool.and_eq_true] at m
    obtain ⟨⟨m1, m2⟩, m3⟩ := m
    obtain ⟨h1, rfl⟩ := map_heap h
    exact wp_runs (runs_unit (entst_ok hs.hr (hs.ev m1) (hs.ev m2) (hs.ev m3) h1)) hK
  | ext x i =>
    simp only [mOp] at m
    split at m
    case h_2 => cases m
    rename_i b j
    simp only [Bool.and_eq_true, beq_iff_eq] at m
    obtain ⟨m1, rfl⟩ := m
    replace h : (match x.ev E s with | .tup vs => (vs[i]?).map (fun v => (v, H)) | _ => none) = some (v, H') := h
    have hx := hs.ev m1
    split at h
    · rename_i vs he
      obtain ⟨h1, rfl⟩ := map_pure h
      rw [he] at hx
      cases hv : a.eval b with
      | tuple xs =>
        rw [hv] at hx
        cases hx with
        | @tup _ ys hy =>
        obtain ⟨y, h2, h3⟩ := hy.get? h1
        refine wp_value (x := y) ?_ (hK _ w ρ (Ext.refl _ _ _) hs.hr h3)
        show ((do Pure.pure (Next.value (← Instr.extract (a.eval b) i)) : Sem Next)).run L.P w = _
        rw [hv]; simp [Instr.extract, h2]
      | _ => rw [hv] at hx; cases hx
    · cases h
  | mkif t x =>
    simp only [mOp] at m
    split at m
    case h_2 => cases m
    rename_i T b
    simp only [Bool.and_eq_true, beq_iff_eq] at m
    obtain ⟨⟨rfl, m1⟩, m2⟩ := m
    replace h : some (AV.iface t (x.ev E s), H) = some (v, H') := h
    injection h with h; injection h with h1 h2; subst h1; subst h2
    refine wp_value (x := .iface (L.ty t) (a.eval b)) ?_ (hK _ w ρ (Ext.refl _ _ _) hs.hr (.iface (hs.ev m1)))
    show ((do Pure.pure (Next.value (← Instr.makeInterface (L.ty t) (a.eval b))) : Sem Next)).run L.P w = _
    split at m2
    · cases m2
    · cases m2
    · rename_i h3 h4
      cases hu : L.P.underlying (L.ty t) with
      | none => exact absurd hu h4
      | some d =>
        have : (Instr.makeInterface (L.ty t) (a.eval b)).run L.P w = .ok (.iface (L.ty t) (a.eval b)) w := by
          simp only [Instr.makeInterface, Sem.run_bind, run_underlying1 hu, Result.andThen_ok]
          cases d <;> first | rfl | exact absurd hu (h3 _)
        exact exec_v this
  | call f args =>
    simp only [mOp] at m
    split at m
    case h_2 => cases m
    rename_i y as ts
    simp only [Bool.and_eq_true] at m
    replace h : (match f.ev E s with | .fn g cp => cl g (args.map (RX.ev E s) ++ cp) H | _ => none) = some (v, H') := h
    have hf := hs.ev m.1
    split at h
    · rename_i g cp he
      rw [he] at hf
      cases hv : a.eval y with
      | func fn fi cs =>
        rw [hv] at hf
        cases hf with
        | @fn _ _ xs hc =>
        have hargs := (hs.evs m.2).append hc
        have hex : (execOp a.eval ⟨dst, .call { callee := .value y, args := as, argTypes := ts }, type, pos, after, guard⟩).run L.P w = (callFunc (L.fn g) (as.toList.map a.eval ++ xs).toArray).run L.P w := by
          show (do let d ← resolve a.eval { callee := .value y, args := as, argTypes := ts } type; invoke d.target d.args : Sem Next).run L.P w = _
          have e : (as.toList.map a.eval ++ xs).toArray = as.map a.eval ++ xs.toArray := by apply Array.ext'; simp
          rw [e]
          simp [resolve, Deferred.ofValue, hv, invoke]
        unfold Oper.wp
        rw [hex]
        rcases hcl g _ H v H' h w ρ _ hs.hr hs.gl hargs with ⟨x, w', ρ', h1, h2, h3, h4⟩ | ⟨h1, h2⟩
        · rw [h1]; exact hK x w' ρ' h2 h3 h4
        · rw [h1]
          refine h2.mono fun e w' hh => ?_
          obtain ⟨x, ρ', rfl, h3, h4, h5⟩ := hh
          exact hK x w' ρ' h3 h4 h5
      | _ => rw [hv] at hf; cases hf
    · cases h
  | fcall g args =>
    simp only [mOp] at m
    split at m
    case h_2 => cases m
    rename_i f as ts
    simp only [Bool.and_eq_true, beq_iff_eq] at m
    obtain ⟨rfl, m2⟩ := m
    have hargs := hs.evs m2
    have hex : (execOp a.eval ⟨dst, .call { callee := .value (.func (L.fn g)), args := as, argTypes := ts }, type, pos, after, guard⟩).run L.P w = (callFunc (L.fn g) (as.toList.map a.eval).toArray).run L.P w := by
      show (do let d ← resolve a.eval { callee := .value (.func (L.fn g)), args := as, argTypes := ts } type; invoke d.target d.args : Sem Next).run L.P w = _
      have e : (as.toList.map a.eval).toArray = as.map a.eval := by apply Array.ext'; simp
      rw [e]
      simp [resolve, Deferred.ofValue, Act.eval, invoke]
    unfold Oper.wp
    rw [hex]
    rcases hcl g _ H v H' h w ρ _ hs.hr hs.gl hargs with ⟨x, w', ρ', h1, h2, h3, h4⟩ | ⟨h1, h2⟩
    · rw [h1]; exact hK x w' ρ' h2 h3 h4
    · rw [h1]
      refine h2.mono fun e w' hh => ?_
      obtain ⟨x, ρ', rfl, h3, h4, h5⟩ := hh
      exact hK x w' ρ' h3 h4 h5
  | app sh tag bytes x y =>
    simp only [mOp] at m
    split at m
    case h_2 => cases m
    rename_i as ts
    split at m
    case h_2 => cases m
    rename_i p q t u hp ht
    simp only [Bool.and_eq_true] at m
    obtain ⟨⟨⟨m1, m2⟩, m3⟩, m4⟩ := m
    split at m4
    case h_2 => cases m4
    rename_i e he
    simp only [Bool.and_eq_true] at m4
    obtain ⟨⟨m5, m6⟩, m7⟩ := m4
    replace h : (match elemsOf (szOf sh) H (y.ev E s) with | some (ys, ny) => appendA sh tag bytes (x.ev E s) ys ny H | none => none) = some (v, H') := h
    split at h
    case h_2 => cases h
    rename_i ys ny hel
    have hx := hs.ev m1
    have hy := hs.ev m2
    obtain ⟨hln, hyl, hyc, xs, hys, hrun⟩ := elems_ok hs.hr hy hel
    obtain ⟨base, n, c, hxv⟩ := sl_shape hx (append_shape h)
    rw [hxv] at hx
    obtain ⟨d, hud, hdi⟩ := notInt_ok m3
    have hsz := sizeRun m5
    have has : as = #[p, q] := by rw [← Array.toArray_toList (xs := as), hp]
    have hts : ts = #[t, u] := by rw [← Array.toArray_toList (xs := ts), ht]
    subst has; subst hts
    have happ := append_run (w := w) (ty := type) (sliceOf_ok he) hud hdi (base := base) (sLen := n) (sCap := c) (n := ny) hsz hln
    have hnew : ∀ w' : World, w'.heap = w.heap → (apCells (isInt d) e (szOf sh) ny (a.eval q)).run L.P w' = .ok xs.toArray w' := by
      intro w' hw'
      simp [apCells, hdi, hrun w' hw']
    obtain ⟨z, w', ρ', h1, h2, h3, h4⟩ := append_ok hs.hr m5 m6 m7 (zeros := isInt d) hx hys hyl hyc hnew h (y := a.eval q)
    rw [← happ] at h1
    refine wp_runs ⟨z, w', ρ', .inl ?_, h2, h3, h4⟩ hK
    show (do let d ← resolve a.eval { callee := .builtin .append, args := #[p, q], argTypes := #[t, u] } type; invoke d.target d.args : Sem Next).run L.P w = _
    simp [resolve, invoke, builtin, hxv, h1]
  | appz sh tag bytes zero x nn =>
    simp only [mOp] at m
    split at m
    case h_2 => cases m
    rename_i as ts
    split at m
    case h_2 => cases m
    rename_i p q t u hp ht
    simp only [Bool.and_eq_true] at m
    obtain ⟨⟨⟨m1, m2⟩, m3⟩, m4⟩ := m
    split at m4
    case h_2 => cases m4
    rename_i e he
    simp only [Bool.and_eq_true] at m4
    obtain ⟨⟨⟨m5, m6⟩, m7⟩, m8⟩ := m4
    replace h : (match evNat (nn.ev E s) with | some ny => if zero.length = szOf sh then appendA sh tag bytes (x.ev E s) (repC zero ny) ny H else none | none => none) = some (v, H') := h
    split at h
    case h_2 => cases h
    rename_i ny hel
    split at h
    case isFalse => cases h
    rename_i hzl
    have hx := hs.ev m1
    obtain ⟨k, hq⟩ := evNat_ok (hs.ev m2) hel
    obtain ⟨base, n, c, hxv⟩ := sl_shape hx (append_shape h)
    rw [hxv] at hx
    split at m3
    case h_2 => cases m3
    rename_i k' hud
    have hsz := sizeRun m5
    have has : as = #[p, q] := by rw [← Array.toArray_toList (xs := as), hp]
    have hts : ts = #[t, u] := by rw [← Array.toArray_toList (xs := ts), ht]
    subst has; subst hts
    unfold zeroOk at m8
    split at m8
    case h_2 => cases m8
    rename_i i hi
    split at m8
    case h_2 => cases m8
    rename_i zv hzv
    simp only [Bool.and_eq_true, beq_iff_eq] at m8
    obtain ⟨⟨hz1, hz2⟩, hz3⟩ := m8
    obtain ⟨hv0, hc0⟩ := mVL_ok (L := L) (w := w) (ρ := ρ) (own := Own ρ H) hz1
    have hbd : ny < 9223372036854775808 ∧ ny * i.bytes ≤ 140737488355328 := by
      have hb6 : i.bytes = bytes := by unfold bytesOk at m6; rw [hi] at m6; simpa using m6
      rw [hb6]
      unfold appendA at h
      split at h
      · split at h
        · rename_i h0; subst h0; simp
        · split at h
          · rename_i hc; exact ⟨hc.2, hc.1⟩
          · cases h
      · split at h
        · split at h
          · rename_i h0; subst h0; simp
          · split at h
            · split at h
              · rename_i b' o' l' sh' hsh' _ _ _ _ _ _ hc
                refine ⟨by omega, Nat.le_trans (Nat.mul_le_mul_right _ ?_) hc.2.2.2.2.1⟩
                omega
              · cases h
            · cases h
        · cases h
      · cases h
    have happ := appendz_run (w := w) (ty := type) (sliceOf_ok he) hud rfl (base := base) (sLen := n) (sCap := c) (n := ny) hsz (k := k) hi hbd.1 hbd.2
    have hnew : ∀ w' : World, w'.heap = w.heap → (apCells (isInt (.int k')) e (szOf sh) ny (.int k ny)).run L.P w' = .ok (List.replicate ny zv.cells.toList).flatten.toArray w' := by
      intro w' hw'
      have hzr : (zeroValue e).run L.P w' = .ok zv w' := by simp [zeroValue, typeInfo, hi, hzv]
      by_cases h0 : ny * szOf sh = 0
      · have hnil : (List.replicate ny zv.cells.toList).flatten = [] := by
          have hlen := (repC_VRs hv0 ny).length
          rw [repC_len, hzl, h0] at hlen
          exact List.length_eq_zero_iff.1 hlen.symm
        rw [hnil]
        simp [apCells, isInt, h0]
      · have := zeroCells_list zv.cells ny
        simp only [apCells, isInt, Bool.not_true, Bool.false_eq_true, if_false, h0, Sem.run_bind, hzr, Result.andThen_ok, Sem.run_pure]
        rw [← this]
    obtain ⟨z, w', ρ', h1, h2, h3, h4⟩ := append_ok hs.hr m5 m6 m7 (zeros := isInt (.int k')) hx (repC_VRs hv0 ny) (by rw [repC_len, hzl]) (repC_cell hc0 ny) hnew h (y := .int k ny)
    rw [← happ] at h1
    refine wp_runs ⟨z, w', ρ', .inl ?_, h2, h3, h4⟩ hK
    show (do let d ← resolve a.eval { callee := .builtin .append, args := #[p, q], argTypes := #[t, u] } type; invoke d.target d.args : Sem Next).run L.P w = _
    simp [resolve, invoke, builtin, hxv, hq, h1]
  | len lk x =>
    simp only [mOp] at m
    split at m
    case h_2 => cases m
    rename_i as ts
    split at m
    case h_2 => cases m
    rename_i p t hp ht
    simp only [Bool.and_eq_true] at m
    have has : as = #[p] := by rw [← Array.toArray_toList (xs := as), hp]
    have hts : ts = #[t] := by rw [← Array.toArray_toList (xs := ts), ht]
    subst has; subst hts
    obtain ⟨h1, rfl⟩ := map_pure h
    obtain ⟨y, h2, h3⟩ := len_ok hs.hr (ty := type) m.2 (hs.ev m.1) h1
    refine wp_value (x := y) ?_ (hK _ w ρ (Ext.refl _ _ _) hs.hr h3)
    show (do let d ← resolve a.eval { callee := .builtin .len, args := #[p], argTypes := #[t] } type; invoke d.target d.args : Sem Next).run L.P w = _
    simp [resolve, invoke, builtin, h2]
  | cap x =>
    simp only [mOp] at m
    split at m
    case h_2 => cases m
    rename_i as ts
    split at m
    case h_2 => cases m
    rename_i p t hp ht
    simp only [Bool.and_eq_true] at m
    have has : as = #[p] := by rw [← Array.toArray_toList (xs := as), hp]
    have hts : ts = #[t] := by rw [← Array.toArray_toList (xs := ts), ht]
    subst has; subst hts
    obtain ⟨e, he⟩ := Option.isSome_iff_exists.1 m.2
    have hx := hs.ev m.1
    replace h : (match x.ev E s with | .nils => some (AV.int .i64 0, H) | _ => none) = some (v, H') := h
    split at h
    case h_2 => cases h
    rename_i hxe
    injection h with h; injection h with h1 h2; subst h1; subst h2
    rw [hxe] at hx
    have hv : a.eval p = .slice none 0 0 := by cases hv : a.eval p <;> rw [hv] at hx <;> cases hx; rfl
    refine wp_value (x := goInt 0) ?_ (hK _ w ρ (Ext.refl _ _ _) hs.hr (.int _ _))
    show (do let d ← resolve a.eval { callee := .builtin .cap, args := #[p], argTypes := #[t] } type; invoke d.target d.args : Sem Next).run L.P w = _
    simp [resolve, invoke, builtin, Builtin.cap_, run_underlying1 (sliceOf_ok he), hv]
  | clear zero x =>
    simp only [mOp] at m
    split at m
    case h_2 => cases m
    rename_i as ts
    split at m
    case h_2 => cases m
    rename_i p t hp ht
    simp only [Bool.and_eq_true] at m
    have has : as = #[p] := by rw [← Array.toArray_toList (xs := as), hp]
    have hts : ts = #[t] := by rw [← Array.toArray_toList (xs := ts), ht]
    subst has; subst hts
    obtain ⟨m1, m2⟩ := m
    split at m2
    case h_2 => cases m2
    rename_i e he
    obtain ⟨z, w', h1, h2, h3, h4⟩ := clear_ok hs.hr (ty := type) (sliceOf_ok he) m2 (hs.ev m1) h
    refine wp_value (x := z) ?_ (hK z w' ρ h2 h3 h4)
    show (do let d ← resolve a.eval { callee := .builtin .clear, args := #[p], argTypes := #[t] } type; invoke d.target d.args : Sem Next).run L.P w = _
    simp [resolve, invoke, builtin, h1]
  | min x y =>
    simp only [mOp] at m
    split at m
    case h_2 => cases m
    rename_i as ts
    split at m
    case h_2 => cases m
    rename_i p q hp
    simp only [Bool.and_eq_true] at m
    have has : as = #[p, q] := by rw [← Array.toArray_toList (xs := as), hp]
    subst has
    have hx := hs.ev m.1
    have hy := hs.ev m.2
    replace h : (match x.ev E s, y.ev E s with | .int k a, .int _ b => some (AV.int k (if b < a then b else a), H) | _, _ => none) = some (v, H') := h
    split at h
    case h_2 => cases h
    rename_i k n k' n' e1 e2
    injection h with h; injection h with h1 h2; subst h1; subst h2
    rw [e1] at hx; rw [e2] at hy
    have hv1 : a.eval p = .int k n := by cases hv : a.eval p <;> rw [hv] at hx <;> cases hx; rfl
    have hv2 : a.eval q = .int k' n' := by cases hv : a.eval q <;> rw [hv] at hy <;> cases hy; rfl
    refine wp_value (x := .int k (if n' < n then n' else n)) ?_ (hK _ w ρ (Ext.refl _ _ _) hs.hr (.int _ _))
    show (do let d ← resolve a.eval { callee := .builtin .min, args := #[p, q], argTypes := ts } type; invoke d.target d.args : Sem Next).run L.P w = _
    simp [resolve, invoke, builtin, Builtin.min_, Builtin.min2, hv1, hv2]
  | max x y =>
    simp only [mOp] at m
    split at m
    case h_2 => cases m
    rename_i as ts
    split at m
    case h_2 => cases m
    rename_i p q hp
    simp only [Bool.and_eq_true] at m
    have has : as = #[p, q] := by rw [← Array.toArray_toList (xs := as), hp]
    subst has
    have hx := hs.ev m.1
    have hy := hs.ev m.2
    replace h : (match x.ev E s, y.ev E s with | .int k a, .int _ b => some (AV.int k (if a < b then b else a), H) | _, _ => none) = some (v, H') := h
    split at h
    case h_2 => cases h
    rename_i k n k' n' e1 e2
    injection h with h; injection h with h1 h2; subst h1; subst h2
    rw [e1] at hx; rw [e2] at hy
    have hv1 : a.eval p = .int k n := by cases hv : a.eval p <;> rw [hv] at hx <;> cases hx; rfl
    have hv2 : a.eval q = .int k' n' := by cases hv : a.eval q <;> rw [hv] at hy <;> cases hy; rfl
    refine wp_value (x := .int k (if n < n' then n' else n)) ?_ (hK _ w ρ (Ext.refl _ _ _) hs.hr (.int _ _))
    show (do let d ← resolve a.eval { callee := .builtin .max, args := #[p, q], argTypes := ts } type; invoke d.target d.args : Sem Next).run L.P w = _
    simp [resolve, invoke, builtin, Builtin.max_, Builtin.max2, hv1, hv2]
  | copy _ _ _ => simp [mOp] at m
  | sdata x =>
    simp only [mOp] at m
    split at m
    case h_2 => cases m
    rename_i as ts
    split at m
    case h_2 => cases m
    rename_i p hp
    have has : as = #[p] := by rw [← Array.toArray_toList (xs := as), hp]
    subst has
    obtain ⟨h1, rfl⟩ := map_pure (show (sdataA (x.ev E s)).map (fun v => (v, H)) = some (v, H') from by
      rw [← h]; simp only [ROp.run]
      cases x.ev E s <;> try rfl
      simp only [sdataA]
      split <;> rfl)
    obtain ⟨y, h2, h3⟩ := sdata_ok (ts := ts) (ty := type) (hs.ev m) h1
    refine wp_value (x := y) ?_ (hK _ w ρ (Ext.refl _ _ _) hs.hr h3)
    show (do let d ← resolve a.eval { callee := .builtin .unsafeSliceData, args := #[p], argTypes := ts } type; invoke d.target d.args : Sem Next).run L.P w = _
    simp [resolve, invoke, builtin, h2]
  | ustr q nn =>
    simp only [mOp] at m
    split at m
    case h_2 => cases m
    rename_i as ts
    split at m
    case h_2 => cases m
    rename_i p r t u hp ht
    simp only [Bool.and_eq_true] at m
    have has : as = #[p, r] := by rw [← Array.toArray_toList (xs := as), hp]
    have hts : ts = #[t, u] := by rw [← Array.toArray_toList (xs := ts), ht]
    subst has; subst hts
    obtain ⟨n, hn, h1⟩ : ∃ n, evNat (nn.ev E s) = some n ∧ ustrA (q.ev E s) (some n) H = some (v, H') := by
      replace h : ustrA (q.ev E s) (evNat (nn.ev E s)) H = some (v, H') := h
      cases hn : evNat (nn.ev E s) with
      | none => rw [hn] at h; unfold ustrA at h; split at h <;> simp_all
      | some n => rw [hn] at h; exact ⟨n, rfl, h⟩
    obtain ⟨x, w', h2, h3, h4, h5⟩ := ustr_ok (it := u) (ty := type) hs.hr m.2 (hs.ev m.1.1) (hs.ev m.1.2) hn h1
    refine wp_value (x := x) ?_ (hK x w' ρ h3 h4 h5)
    show (do let d ← resolve a.eval { callee := .builtin .unsafeString, args := #[p, r], argTypes := #[t, u] } type; invoke d.target d.args : Sem Next).run L.P w = _
    simp [resolve, invoke, builtin, h2]
end
end Go.AM

/- A region, its operations in the text's order. -/
namespace Go.AM
set_option linter.unusedVariables false
set_option linter.unusedSimpArgs false

section
variable (L : Link) (E : Env)
def mGuard (ps : Array Oper) : Option (Nat × Bool) → Option (Nat × Bool) → Bool
  | none, none => true
  | some (j, w), some (t, w') => w == w' && (match ps[j]? with | some o => o.dst == some t | none => false)
  | _, _ => false
def mRO (ps : Array Oper) (o : RO) (p : Oper) : Bool := p.dst == o.dst && mOp L E o.op p.op && mGuard ps p.guard o.guard
def mROs (ps : Array Oper) : List RO → List Oper → Bool
  | [], [] => true
  | o :: r, p :: q => mRO L E ps o p && mROs ps r q
  | _, _ => false
end

section
variable {L : Link} {E : Env} {cl : Nat → List AV → Heap → Option (AV × Heap)} {w : World} {ρ : Map} {H : Heap} {s : List AV} {a : Act}
theorem VR.bool_iff {own : Nat → Prop} {v : AV} {x : Value} (h : VR L w ρ own v x) (b : Bool) : v = .bool b ↔ x = .bool b := by
  constructor
  · rintro rfl; cases h; rfl
  · rintro rfl; cases h; rfl
theorem put_defers (a : Act) (d : Option Tmp) (x : Value) : (a.put d x).defers = a.defers := by cases d <;> rfl

theorem wanted_ok (hs : SR L E w ρ H s a) {ps : Array Oper} {o : RO} {p : Oper} (m : mGuard ps p.guard o.guard = true) : Region.wanted p (yielded ps a.tmps) = o.wanted s := by
  unfold Region.wanted RO.wanted
  cases hp : p.guard with
  | none => cases ho : o.guard with
    | none => rfl
    | some g => rw [hp, ho] at m; cases g; simp [mGuard] at m
  | some g =>
    obtain ⟨j, wt⟩ := g
    cases ho : o.guard with
    | none => rw [hp, ho] at m; simp [mGuard] at m
    | some g' =>
      obtain ⟨t, w'⟩ := g'
      rw [hp, ho] at m
      simp only [mGuard, Bool.and_eq_true, beq_iff_eq] at m
      obtain ⟨rfl, m⟩ := m
      cases hj : ps[j]? with
      | none => rw [hj] at m; cases m
      | some q =>
        rw [hj] at m
        simp only [beq_iff_eq] at m
        have hv : VR L w ρ (Own ρ H) (s.getD t undef) (a.tmps.toList.getD t Go.undef) := hs.vs.getD t VR.undef
        have hy : yielded ps a.tmps j = match a.tmps.toList.getD t Go.undef with | .bool b => some b | _ => none := by
          unfold yielded
          simp only [hj, Option.bind_some, m, List.getD_eq_getElem?_getD, Array.getElem?_toList]
          cases a.tmps[t]? with
          | none => simp [Go.undef]
          | some x => cases x <;> rfl
        change (yielded ps a.tmps j == some wt) = (match s.getD t undef with | .bool b => b == wt | _ => false)
        rw [hy]
        generalize a.tmps.toList.getD t Go.undef = x at hv
        generalize s.getD t undef = v at hv
        cases hv <;> rfl

theorem step_op {ps : Array Oper} {Q : Exit → Act → World → Prop} (hs : SR L E w ρ H s a) (hcl : CallS L E cl) {o : RO} {p : Oper} (m : mRO L E ps o p = true) {v : AV} {H' : Heap} (h : o.op.run E cl s H = some (v, H'))
    {next : Act → World → Prop} (hK : ∀ x w' ρ', Ext w ρ H w' ρ' H' → SR L E w' ρ' H' (putA s o.dst v) (a.put o.dst x) → next (a.put o.dst x) w') : p.wp L.P a w next Q := by
  simp only [mRO, Bool.and_eq_true, beq_iff_eq] at m
  obtain ⟨⟨m1, m2⟩, m3⟩ := m
  obtain ⟨dst, op, type, pos, after, guard⟩ := p
  simp only at m1 m2
  subst m1
  exact op_sound hs hcl m2 h fun x w' ρ' e hr hv => hK x w' ρ' e (hs.put e hr hv _)

theorem runOps_sound {ps : Array Oper} {Q : Exit → Act → World → Prop} (hcl : CallS L E cl) : ∀ (ops : List RO) (k : Nat) {w : World} {ρ : Map} {H : Heap} {s : List AV} {a : Act} {s' : List AV} {H' : Heap}, SR L E w ρ H s a → mROs L E ps ops (ps.toList.drop k) = true →
    runOps E cl ops s H = some (s', H') → (∀ a' w' ρ', Ext w ρ H w' ρ' H' → SR L E w' ρ' H' s' a' → a'.defers = a.defers → Q .normal a' w') → wpOps L.P ps Q (List.range' k ops.length) a w
  | [], k, w, ρ, H, s, a, s', H', hs, m, h, hQ => by
    simp only [runOps, Option.some.injEq, Prod.mk.injEq] at h
    obtain ⟨rfl, rfl⟩ := h
    simp only [List.length_nil, List.range'_zero, wpOps]
    exact hQ a w ρ (Ext.refl _ _ _) hs rfl
  | o :: r, k, w, ρ, H, s, a, s', H', hs, m, h, hQ => by
    simp only [List.length_cons, List.range'_succ, wpOps]
    cases hd : ps.toList.drop k with
    | nil => rw [hd] at m; simp [mROs] at m
    | cons p q =>
      rw [hd] at m
      simp only [mROs, Bool.and_eq_true] at m
      have hk : ps[k]? = some p := by
        have : (ps.toList.drop k)[0]? = some p := by rw [hd]; rfl
        simpa using this
      have hq : ps.toList.drop (k + 1) = q := by
        have : (ps.toList.drop k).drop 1 = q := by rw [hd]; rfl
        simpa [List.drop_drop] using this
      rw [hk]
      have hg : mGuard ps p.guard o.guard = true := by have := m.1; simp only [mRO, Bool.and_eq_true] at this; exact this.2
      have hdst : p.dst = o.dst := by have := m.1; simp only [mRO, Bool.and_eq_true, beq_iff_eq] at this; exact this.1.1
      simp only [wanted_ok hs hg]
      simp only [runOps] at h
      split at h
      · rename_i hw
        rw [if_pos hw]
        cases hr : o.op.run E cl s H with
        | none => rw [hr] at h; cases h
        | some p' =>
          obtain ⟨v, H1⟩ := p'
          rw [hr] at h
          simp only [Option.bind_some] at h
          refine .inl (step_op hs hcl m.1 hr fun x w1 ρ1 e hs1 => ?_)
          exact runOps_sound hcl r (k + 1) hs1 (by rw [hq]; exact m.2) h fun a' w' ρ' e' hs' hdf => hQ a' w' ρ' (e.trans e') hs' (by rw [hdf, put_defers])
      · rename_i hw
        rw [if_neg hw, hdst]
        exact runOps_sound hcl r (k + 1) (hs.put (Ext.refl _ _ _) hs.hr VR.undef _) (by rw [hq]; exact m.2) h fun a' w' ρ' e' hs' hdf => hQ a' w' ρ' e' hs' (by rw [hdf, put_defers])

theorem mROs_length {ps : Array Oper} : ∀ {ops : List RO} {qs : List Oper}, mROs L E ps ops qs = true → ops.length = qs.length
  | [], [], _ => rfl
  | o :: r, p :: q, m => by simp only [mROs, Bool.and_eq_true] at m; simp [mROs_length m.2]
  | [], _ :: _, m => by simp [mROs] at m
  | _ :: _, [], m => by simp [mROs] at m

theorem region_sound {id : Nat} {ps : Array Oper} {Q : Exit → Act → World → Prop} (hcl : CallS L E cl) {ops : List RO} {s' : List AV} {H' : Heap} (hs : SR L E w ρ H s a) (m : mROs L E ps ops ps.toList = true)
    (h : runOps E cl ops s H = some (s', H')) (hQ : ∀ a' w' ρ', Ext w ρ H w' ρ' H' → SR L E w' ρ' H' s' a' → a'.defers = a.defers → Q .normal a' w') : (Code.region id ps false).wp L.P Q a w := by
  refine wp_region ?_
  have hl := mROs_length m
  have := runOps_sound (Q := Q) hcl ops 0 hs (by simpa using m) h hQ
  rw [List.range_eq_range']
  simpa [hl] using this
end
end Go.AM

/- A block that the A-machine has made already and the program makes now. -/
namespace Go.AM
set_option linter.unusedVariables false
set_option linter.unusedSimpArgs false

section
variable {L : Link} {E : Env} {cl : Nat → List AV → Heap → Option (AV × Heap)} {w : World} {ρ : Map} {H : Heap} {s : List AV} {a : Act}
theorem mine_put {b : Nat} {x : Blk} (hn : ρ b = none) (hb : H[b]? = some x) (hx : x ≠ .dead) (c : Nat) : Mine (upd ρ b (w.heap.size, 0)) H c ↔ (Mine ρ H c ∨ c = w.heap.size) := by
  constructor
  · rintro ⟨i, base, hi, hl⟩
    by_cases h : i = b
    · subst h
      rw [upd_same] at hi
      injection hi with hi
      injection hi with h1 h2
      exact .inr h1.symm
    · rw [upd_other _ _ h] at hi
      exact .inl ⟨i, base, hi, hl⟩
  · rintro (⟨i, base, hi, hl⟩ | rfl)
    · have h : i ≠ b := by rintro rfl; rw [hn] at hi; cases hi
      exact ⟨i, base, by rw [upd_other _ _ h]; exact hi, hl⟩
    · exact ⟨b, 0, upd_same _ _ _, x, hb, hx⟩
theorem ext_put {b : Nat} {x : Blk} (hn : ρ b = none) (hb : H[b]? = some x) (hx : x ≠ .dead) (o : Obj) : ExtC w ρ H { w with heap := w.heap.push o } (upd ρ b (w.heap.size, 0)) H where
  keep c hc _ := by
    change (w.heap.push o)[c]? = _
    rw [Array.getElem?_push_lt hc, Array.getElem?_eq_getElem hc]
  shape c cs ty fr h := by
    have hc : c < w.heap.size := (Array.getElem?_eq_some_iff.1 h).1
    refine ⟨cs, fr, ?_, rfl⟩
    change (w.heap.push o)[c]? = _
    rw [Array.getElem?_push_lt hc, ← Array.getElem?_eq_getElem hc]; exact h
  ext i y hi := by
    have h : i ≠ b := by rintro rfl; rw [hn] at hi; cases hi
    rw [upd_other _ _ h]; exact hi
  mine c hc h := by
    rcases (mine_put hn hb hx c).1 h with h | h
    · exact h
    · omega
  bar := rfl
theorem HR.put (hr : HR L w ρ H) {b : Nat} {x : Blk} (hn : ρ b = none) (hb : H[b]? = some x) (hx : x ≠ .dead) (o : Obj)
    (hB : BR L { w with heap := w.heap.push o } (upd ρ b (w.heap.size, 0)) (Own (upd ρ b (w.heap.size, 0)) H) w.heap.size 0 x) : HR L { w with heap := w.heap.push o } (upd ρ b (w.heap.size, 0)) H := by
  refine ⟨fun c hc => by have := hr.bar c hc; change c < (w.heap.push o).size; rw [Array.size_push]; omega, ?_, ?_, ?_⟩
  · intro i c base h
    by_cases e : i = b
    · subst e; rw [upd_same] at h; injection h with h; injection h with h1 h2
      exact ⟨(List.getElem?_eq_some_iff.1 hb).1, by change c < (w.heap.push o).size; rw [Array.size_push]; omega⟩
    · rw [upd_other _ _ e] at h; have := hr.dom i c base h
      exact ⟨this.1, by change c < (w.heap.push o).size; rw [Array.size_push]; omega⟩
  · intro i i' c base base' h h' hl hl'
    by_cases e : i = b
    · by_cases e' : i' = b
      · rw [e, e']
      · subst e; rw [upd_same] at h; injection h with h; injection h with h1 h2
        rw [upd_other _ _ e'] at h'; have := (hr.dom i' c base' h').2; omega
    · by_cases e' : i' = b
      · subst e'; rw [upd_same] at h'; injection h' with h'; injection h' with h1 h2
        rw [upd_other _ _ e] at h; have := (hr.dom i c base h).2; omega
      · rw [upd_other _ _ e] at h; rw [upd_other _ _ e'] at h'
        exact hr.inj i i' c base base' h h' hl hl'
  · intro i c base y h hy
    by_cases e : i = b
    · subst e; rw [upd_same] at h; injection h with h; injection h with h1 h2
      subst h1; subst h2
      rw [hb] at hy; injection hy with hy; subst hy
      exact hB
    · rw [upd_other _ _ e] at h
      have h1 := (hr.dom i c base h).2
      refine BR.extC (ext_put hn hb hx o) ?_ (hr.blk i c base y h hy)
      change (w.heap.push o)[c]? = _
      rw [Array.getElem?_push_lt h1, Array.getElem?_eq_getElem h1]

theorem alloc_new (hs : SR L E w ρ H s a) {p : Oper} {o : ROp} (m : mOp L E o p.op = true) (ha : o.isAlloc = true) {H0 H0' : Heap} {v : AV} (h : o.run E cl s H0 = some (v, H0')) :
    ∃ blk mk, v = mk H0.length ∧ H0' = H0 ++ [blk] ∧ NewS L w ρ H ((execOp a.eval p).run L.P w) blk mk := by
  obtain ⟨dst, op, type, pos, after, guard⟩ := p
  simp only at m
  cases o <;> simp only [ROp.isAlloc, Bool.false_eq_true] at ha
  case box x =>
    replace h : (if (x.ev E s).cells.all AV.isCell then some (AV.ptr H0.length 0, H0 ++ [Blk.cells (x.ev E s).cells]) else none) = some (v, H0') := h
    split at h
    case isFalse => cases h
    rename_i hi
    injection h with h; injection h with h1 h2; subst h1; subst h2
    simp only [mOp] at m
    split at m
    · exact ⟨_, fun b => .ptr b 0, rfl, rfl, box_new (hs.ev m) hi rfl⟩
    · rename_i t
      split at m
      case h_2 => cases m
      rename_i z
      obtain ⟨zv, h1, h2⟩ := zeroV_run (L := L) (w := w) (ρ := ρ) (own := Own ρ H) m
      refine ⟨_, fun b => .ptr b 0, rfl, rfl, box_new (t := t) h2 hi ?_⟩
      show ((do Pure.pure (Next.value (← Instr.alloc t true (.tuple #[]))) : Sem Next)).run L.P w = _
      simp [Instr.alloc, h1]
    · cases m
  case bslice sh tag n zero qs =>
    simp only [mOp] at m
    split at m
    case h_2 => cases m
    simp only [Bool.and_eq_true, beq_iff_eq] at m
    obtain ⟨rfl, m⟩ := m
    split at m
    case h_2 => cases m
    rename_i e he
    simp only [Bool.and_eq_true, decide_eq_true_eq] at m
    obtain ⟨⟨⟨m1, m2⟩, m3⟩, m4⟩ := m
    replace h : (fillA (repC zero n) (evParts E s qs)).map (fun cs => (AV.sl H0.length 0 n sh, H0 ++ [Blk.arr (szOf sh) tag 0 cs])) = some (v, H0') := h
    obtain ⟨cs, h2, h3⟩ := Option.map_eq_some_iff.1 h
    injection h3 with h4 h5; subst h4; subst h5
    exact ⟨_, fun b => .sl b 0 n sh, rfl, rfl, bslice_new hs (sliceOf_ok he) m1 m2 m3 m4 h2 rfl⟩
  case mkmap =>
    simp only [mOp] at m
    split at m
    case h_2 => cases m
    replace h : some (AV.map H0.length, H0 ++ [Blk.map [] []]) = some (v, H0') := h
    injection h with h; injection h with h1 h2; subst h1; subst h2
    exact ⟨_, .map, rfl, rfl, mkmap_new rfl⟩

/-- It is run where its block stands already. -/
theorem ghost_run (hs : SR L E w ρ H s a) {p : Oper} {blk : Blk} {mk : Nat → AV} (h : NewS L w ρ H ((execOp a.eval p).run L.P w) blk mk) {b : Nat} (hn : ρ b = none) (hb : H[b]? = some blk) {next : Act → World → Prop} {Q : Exit → Act → World → Prop}
    (hK : ∀ x o, (let w' : World := { w with heap := w.heap.push o }; SR L E w' (upd ρ b (w.heap.size, 0)) H (putA s p.dst (mk b)) (a.put p.dst x) → next (a.put p.dst x) w')) : p.wp L.P a w next Q := by
  obtain ⟨x, o, hrun, hx, hB, hv⟩ := h
  have e := ext_put (w := w) (ρ := ρ) hn hb hx o
  refine wp_value (w' := { w with heap := w.heap.push o }) hrun (hK x o ?_)
  have hr := hs.hr.put hn hb hx o (hB _ _ e)
  have h2 := hv (upd ρ b (w.heap.size, 0)) (Own (upd ρ b (w.heap.size, 0)) H) b (upd_same _ _ _)
  have h1 := VRs.extC e hs.vs
  refine ⟨hr, ?_, fun g cs hg => VR.extC e (hs.gl g cs hg)⟩
  cases hd : p.dst with
  | none => exact h1
  | some d => simpa [putA, Act.put] using h1.set d h2

/-! ### Blocks to come -/
theorem mine_app (hr : HR L w ρ H) (G : Heap) (c : Nat) : Mine ρ (H ++ G) c ↔ Mine ρ H c := by
  constructor
  · rintro ⟨b, base, hb, y, hy, hd⟩
    have hlt := (hr.dom b c base hb).1
    rw [List.getElem?_append_left hlt] at hy
    exact ⟨b, base, hb, y, hy, hd⟩
  · rintro ⟨b, base, hb, y, hy, hd⟩
    have hlt := (hr.dom b c base hb).1
    exact ⟨b, base, hb, y, by rw [List.getElem?_append_left hlt]; exact hy, hd⟩
theorem extC_app (hr : HR L w ρ H) (G : Heap) : ExtC w ρ H w ρ (H ++ G) := ⟨fun _ _ _ => rfl, fun _ cs _ fr h => ⟨cs, fr, h, rfl⟩, fun _ _ h => h, fun c _ h => (mine_app hr G c).1 h, rfl⟩
theorem SR.app (hs : SR L E w ρ H s a) (G : Heap) : SR L E w ρ (H ++ G) s a := by
  have e := extC_app hs.hr G
  refine ⟨⟨hs.hr.bar, fun b c base h => ?_, fun b b' c base base' h h' hl hl' => ?_, fun b c base y h hy => ?_⟩, VRs.extC e hs.vs, fun g cs hg => VR.extC e (hs.gl g cs hg)⟩
  · have := hs.hr.dom b c base h
    exact ⟨by simp; omega, this.2⟩
  · obtain ⟨y, hy, hd⟩ := hl
    obtain ⟨y', hy', hd'⟩ := hl'
    rw [List.getElem?_append_left (hs.hr.dom b c base h).1] at hy
    rw [List.getElem?_append_left (hs.hr.dom b' c base' h').1] at hy'
    exact hs.hr.inj b b' c base base' h h' ⟨y, hy, hd⟩ ⟨y', hy', hd'⟩
  · rw [List.getElem?_append_left (hs.hr.dom b c base h).1] at hy
    exact BR.extC e rfl (hs.hr.blk b c base y h hy)
end
end Go.AM
