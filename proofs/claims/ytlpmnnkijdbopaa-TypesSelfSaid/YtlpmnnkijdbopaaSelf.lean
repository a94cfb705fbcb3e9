/- The row of TypesSelf. -/
import Derived.Test.YtlpmnnkijdbopaaRows
import Derived.Test.YtlpmnnkijdbopaaBl
import Derived.Test.YtlpmnnkijdbopaaBe
import Derived.WalkKit
import Derived.ProofKit
import Derived.OpenShut
import Derived.ShutString
import Derived.ChangeOld
import Derived.Below
import Derived.SizedLaws
set_option linter.unusedSectionVars false
set_option linter.unnecessarySimpa false
set_option linter.deprecated false
set_option linter.unusedVariables false
set_option linter.unusedSimpArgs false
namespace Go.Proofs.Ytlpmnnkijdbopaa.typesSelf
open Go.ChangeShapes Go.WideShapes Go.ChangeAt Go.RowKit Go.AM Go.AM.T
open Go.ChangeMaps (open_string shut_string)
set_option linter.unusedVariables false
set_option linter.unusedSimpArgs false
theorem own : ownKnob Try.prog.godebug = none := by kernel_rfl
theorem laidOut : laidOutB Try.prog = true := by kernel_rfl
theorem below_of_ext {w w' : World} {ρ' : Map} {H' : Heap} (e : Ext w ρ0 [] w' ρ' H') : Below w.heap.size w w' :=
  ⟨e.os, e.tape, e.output, e.size, fun k hk => e.keep k hk fun h => own0 k (.inl h)⟩
set_option maxRecDepth 100000 in
theorem lifted (os : Os) (started : os.Started) (H : Type) (enc : TypeId × Value → H) :
    ReturnsInHanded {} Try.checked os 3 .any (Rows.typesSelfSpec.pre6 enc Try.prog Try.f3 Rows.typesSelfRow.domain false) (Rows.typesSelfSpec.post enc Try.prog Try.f3 false true false false) := by
  refine returnsInHanded_of_change_sized (C := Try.checked) own started (by kernel_rfl) Try.func3
    (ChangeSpec.witness6 (enc := enc) (C := Try.checked) false ⟨#[], #[.slice none 0 0, .string ByteArray.empty, .string ByteArray.empty], []⟩ 8 (by kernel_rfl) (by kernel_rfl) (by kernel_rfl) (by kernel_rfl)) ?_
  intro W base args ds gs before hval0 hW hcnd hsz0 _
  have hsz : (DataW.weightsEach Try.prog (Try.f3.params.toList ++ Rows.typesSelfSpec.plain.varTypes Try.prog) (ds ++ gs)).all (· ≤ reachBytes) = true := hsz0
  have hval : ∀ (j : Nat) t v, Try.f3.params[j]? = some t → args[j]? = some v → Value.okWide Try.prog W .any base t v := hval0
  have hW' := hW
  obtain ⟨p, q, hA0, hV, rfl, hfz, hnd⟩ := hW
  have hA : DataW.TrodAll enc Try.prog W 0 (fun _ => true) true Try.f3.params.toList args.toList ds p := hA0
  rw [Try.params3] at hA hval hsz
  obtain ⟨v0, vs0, d0, ds0, p0, q0, hargs, rfl, rfl, h0, r0⟩ := trodAll_cons hA
  obtain ⟨v1, vs1, d1, ds1, p1, q1, rfl, rfl, rfl, h1, r1⟩ := trodAll_cons r0
  obtain ⟨v2, vs2, d2, ds2, p2, q2, rfl, rfl, rfl, h2, r2⟩ := trodAll_cons r1
  obtain ⟨rfl, rfl, rfl⟩ := trodAll_nil r2
  obtain rfl : args = #[v0, v1, v2] := by cases args; simp_all
  obtain ⟨rfl, rfl⟩ := trodVars_none hV
  obtain ⟨a0, len0, cap0, rfl⟩ := okWide_slice Try.underlying22 (hval 0 22 v0 rfl rfl)
  have k0 := h0
  have lt0 : ∀ x ∈ p0, x.block < W.heap.size := by obtain ⟨m, hm⟩ := k0; exact DataW.trod_lt m _ _ _ hm
  obtain ⟨a1, rfl, rfl, rfl, y1⟩ := open_string Try.underlying9 (hval 1 9 v1 rfl rfl) h1
  have w1 : a1.data.toList.length ≤ reachBytes := sized_string hsz (j := 1) (t := 9) rfl rfl
  obtain ⟨a2, rfl, rfl, rfl, y2⟩ := open_string Try.underlying9 (hval 2 9 v2 rfl rfl) h2
  have w2 : a2.data.toList.length ≤ reachBytes := sized_string hsz (j := 2) (t := 9) rfl rfl
  have hw0 : (d0.weights Try.prog 22).all (· ≤ reachBytes) = true :=
    List.all_eq_true.2 fun n hn => List.all_eq_true.1 hsz n (DataW.weights_mem_each (j := 0) (t := 22) rfl rfl n hn)
  obtain ⟨fuel, hf⟩ := h0
  obtain ⟨vs, hvs, a, l, rfl, ha, hg, hl, hl2⟩ := opn_types (enc := enc) fuel _ _ _ hf hw0
  clear hA0 hval0 hsz0 hsz
  have s1 : Short a1.data.toList := by unfold reachBytes at w1; simp only [Short]; omega
  have s2 : Short a2.data.toList := by unfold reachBytes at w2; simp only [Short]; omega
  obtain ⟨k, hk⟩ := Go.AM.T.r0 ha hg hl a1.data.toList a2.data.toList []
  have hx : VRs link W ρ0 (Own ρ0 []) [a, .str a1.data.toList, .str a2.data.toList] [.slice a0 len0 cap0, .string a1, .string a2] := by
    cases hvs with
    | cons h _ => exact .cons h (.cons (.str a1) (.cons (.str a2) .nil))
  have hc := calls_of_callF fit (f := c0) rfl rfl (hk k (Nat.le_refl _)) (HR.empty W (B := fun _ => False) fun c h => h.elim) (fun g cs h => by cases h) hx
  have hc' : Calls Try.prog 3 #[.slice a0 len0 cap0, .string a1, .string a2] W _ := hc
  refine hc'.mono fun e W' he => ?_
  obtain ⟨x, ρ', rfl, ex, _, hv⟩ := he
  cases hv
  have bel := below_of_ext ex
  exact ⟨_, rfl, _, _, _, [], _, [], hW', trodAll_mk1 (shut_bool Try.underlying4 _), (trodAll_cons_mk (Below.trod laidOut (by kernel_rfl) (of_decide_eq_true (by kernel_rfl)) k0 bel lt0) (trodAll_cons_mk (shut_string Try.underlying9 y1) (trodAll_cons_mk (shut_string Try.underlying9 y2) trodAll_mk0))), rfl, bel.frame _, fun h => by cases h⟩
theorem over : Rows.typesSelfRow.holds Try.pinned (OpenSpec.ofChange Rows.typesSelfSpec) :=
  OpenClaim.holds_of_wide 3 Try.f3 rfl rfl rfl rfl rfl rfl rfl ⟨rfl, rfl, rfl, rfl, rfl⟩ rfl rfl rfl rfl rfl (by kernel_rfl) Try.func3 (by kernel_rfl)
    (of_decide_eq_true (by kernel_rfl)) (by unfold Func.isWrapper; first | (rw [if_pos (by decide +kernel)]; kernel_rfl) | (rw [if_neg (by decide +kernel)]; exact ⟨rfl, rfl⟩))
    (fun os started H enc _ => lifted os started H enc)
theorem proved : Rows.TypesSelfSaid := over
end Go.Proofs.Ytlpmnnkijdbopaa.typesSelf
namespace Go.Proofs.Ytlpmnnkijdbopaa
/-- The row, under a short name, for the claim. -/
theorem typesSelf_holds : Rows.TypesSelfSaid := typesSelf.proved
end Go.Proofs.Ytlpmnnkijdbopaa
