/- The row and the card of QueryNames. -/
import Derived.Test.YtbdpkblldffkcaaGreatDoorTie
import Derived.Test.YtbdpkblldffkcaaGreatDoorCards
import Derived.Test.YtbdpkblldffkcaaGreatDoorBe
import Derived.Test.YtbdpkblldffkcaaGreatDoorBg
import Derived.Test.YtbdpkblldffkcaaGreatDoorBf
import Derived.WalkKit
import Derived.ProofKit
import Derived.OpenShut
import Derived.ShutString
import Derived.ChangeOld
import Derived.Below
import Derived.SizedLaws
import Derived.LaidMore
import Derived.Lay
import Derived.SevenTiedAt
import Derived.Stop.Joined
set_option linter.unusedSectionVars false
set_option linter.unnecessarySimpa false
set_option linter.deprecated false
set_option linter.unusedVariables false
set_option linter.unusedSimpArgs false
namespace Go.Proofs.YtbdpkblldffkcaaGreatDoor.queryNames
open Go.ChangeShapes Go.WideShapes Go.ChangeAt Go.RowKit Go.AM Go.AM.T
open Go.ChangeMaps (open_string shut_string)
set_option linter.unusedVariables false
set_option linter.unusedSimpArgs false
theorem own : ownKnob Tryz.prog.godebug = none := by kernel_rfl
theorem laidOut : laidOutB Tryz.prog = true := by kernel_rfl
theorem below_of_ext {w w' : World} {ρ' : Map} {H' : Heap} (e : Ext w ρ0 [] w' ρ' H') : Below w.heap.size w w' :=
  ⟨e.os, e.tape, e.output, e.size, fun k hk => e.keep k hk fun h => own0 k (.inl h)⟩
abbrev laidL : List (String × DataW Unit) := [("unicode/utf8.acceptRanges", Rows.laid_unicode_utf8_acceptRanges), ("unicode/utf8.first", Rows.laid_unicode_utf8_first)]
set_option maxRecDepth 100000 in
theorem lifted (os : Os) (started : os.Started) (H : Type) (enc : TypeId × Value → H) :
    ReturnsInHanded {} Tryz.checked os 3 .any (fun w args => (Rows.queryNamesSpec.pre enc Tryz.prog Tryz.f3 Rows.queryNamesRow.domain false w args ∧ laidMetH Tryz.prog laidL w) ∧ sizedMet enc Tryz.prog Tryz.f3 (OpenSpec.ofChange Rows.queryNamesSpec) false w args)
      (Rows.queryNamesSpec.post enc Tryz.prog Tryz.f3 false true false false) := by
  refine returnsInHanded_of_change_and (C := Tryz.checked) (X := fun w _ => laidMetH Tryz.prog laidL w) (fun _ _ _ hh h => h.of_heap hh) own started (by kernel_rfl) Tryz.func3
    (ChangeSpec.witness_shaped (enc := enc) (C := Tryz.checked) (os := os) (X := fun w _ => laidMetH Tryz.prog laidL w) false (World.laidAll Tryz.prog os laidL) #[.agg #[.slice none 0 0, .slice none 0 0]] 8 (World.laidAll_os _ _ _)
      (World.shaped_of_ZipB (by kernel_rfl) (by kernel_rfl)) (by kernel_rfl) (by kernel_rfl) (by kernel_rfl)
      (by rw [MakeChecks.laidMetH_plain _ _ _ (by kernel_rfl)]; exact laidMet_laidAll _ (by kernel_rfl) (by kernel_rfl))) ?_
  intro W base args ds gs before hval0 hW hcnd hsz0 _ _
  have hsz : (DataW.weightsEach Tryz.prog (Tryz.f3.params.toList ++ Rows.queryNamesSpec.plain.varTypes Tryz.prog) (ds ++ gs)).all (· ≤ reachBytes) = true := hsz0
  have hval : ∀ (j : Nat) t v, Tryz.f3.params[j]? = some t → args[j]? = some v → Value.okWide Tryz.prog W .any base t v := hval0
  have hW' := hW
  obtain ⟨p, q, hA0, hV, rfl, hfz, hnd⟩ := hW
  have hA : DataW.TrodAll enc Tryz.prog W 0 (fun _ => true) true Tryz.f3.params.toList args.toList ds p := hA0
  rw [Tryz.params3] at hA hval hsz
  obtain ⟨v0, vs0, d0, ds0, p0, q0, hargs, rfl, rfl, h0, r0⟩ := trodAll_cons hA
  obtain ⟨rfl, rfl, rfl⟩ := trodAll_nil r0
  obtain rfl : args = #[v0] := by cases args; simp_all
  obtain ⟨rfl, rfl⟩ := trodVars_none hV
  obtain ⟨xs, rfl, hxs⟩ := okWide_struct Tryz.underlying25 (hval 0 25 v0 rfl rfl)
  have k0 := h0
  have lt0 : ∀ x ∈ p0, x.block < W.heap.size := by obtain ⟨m, hm⟩ := k0; exact DataW.trod_lt m _ _ _ hm
  have hw0 : (d0.weights Tryz.prog 25).all (· ≤ reachBytes) = true :=
    List.all_eq_true.2 fun n hn => List.all_eq_true.1 hsz n (DataW.weights_mem_each (j := 0) (t := 25) rfl rfl n hn)
  obtain ⟨fuel, hf⟩ := h0
  obtain ⟨vs, hvs, a, D, hac, hD⟩ := opn_doc (enc := enc) fuel _ _ _ hf hw0
  clear hA0 hval0 hsz0 hsz
  obtain ⟨k, hk⟩ := Go.AM.T.r140 hD []
  obtain ⟨oa, fa, rfl, ho, hfr⟩ := hD
  have hac : vs = [oa, fa] := hac.symm
  subst hac
  have hx : VRs link W ρ0 (Own ρ0 []) [.agg [oa, fa]] [.agg xs] := by
    refine .cons ?_ .nil
    have h1 : VRs link W ρ0 (Own ρ0 []) [oa, fa] xs.toList := hvs
    have := VR.agg h1 (fun c hc => by
      simp only [List.mem_cons, List.not_mem_nil, or_false] at hc
      rcases hc with rfl | rfl
      · exact ho.cell
      · exact hfr.cell)
    simpa using this
  have hc := calls_of_callF fit (f := c140) rfl rfl (hk k (Nat.le_refl _)) (HR.empty W (B := fun _ => False) fun c h => h.elim) (fun g cs h => by cases h) hx
  have hc' : Calls Tryz.prog 3 #[.agg xs] W _ := hc
  refine hc'.mono fun e W' he => ?_
  obtain ⟨x, ρ', rfl, ex, _, hv⟩ := he
  cases hv
  have bel := below_of_ext ex
  exact ⟨_, rfl, _, _, _, [], _, [], hW', trodAll_mk1 (shut_bool Tryz.underlying4 _), (trodAll_cons_mk (Below.trod laidOut (by kernel_rfl) (of_decide_eq_true (by kernel_rfl)) k0 bel lt0) trodAll_mk0), rfl, bel.frame _, fun h => by cases h⟩
theorem over : Rows.QueryNamesSaid :=
  OpenClaim.holds_of_wide 3 Tryz.f3 rfl rfl rfl rfl rfl rfl rfl ⟨rfl, rfl, rfl, rfl, rfl⟩ rfl rfl rfl rfl rfl (by kernel_rfl) Tryz.func3 (by kernel_rfl)
    (of_decide_eq_true (by kernel_rfl)) (by unfold Func.isWrapper; first | (rw [if_pos (by decide +kernel)]; kernel_rfl) | (rw [if_neg (by decide +kernel)]; exact ⟨rfl, rfl⟩))
    (fun os started H enc _ => lifted os started H enc)
theorem card : Rows.QueryNamesCardSaid :=
  Claim7.holds_tied_plain_at .later [] [.data, .pinned] true (true, "411837c9f231f7fe78563903984712750d0a8275e54a8c2d35f948e4aa02d5d0") false over (fun _ h => by cases h) (by kernel_rfl) (fun _ h => by cases h) queryNames_row_tie rfl ⟨rfl, rfl⟩ (by kernel_rfl) rfl
    (fun f fn hf hfn => by
      obtain rfl : f = 3 := Option.some.inj ((show Tryz.prog.funcNamed "rubric/rubriclaw09.QueryNames" = some 3 by kernel_rfl).symm.trans hf) |>.symm
      obtain rfl : fn = Tryz.f3 := (Option.some.inj (Tryz.func3.symm.trans hfn)).symm
      exact ⟨by kernel_rfl, fun j t ht => by
        rw [Tryz.params3] at ht
        have hm : t ∈ [25] := by simpa using Array.mem_of_getElem? ht
        have hall : ([25].all fun u => !Tryz.prog.wantsStandIn u) = true := by kernel_rfl
        exact (show Tryz.prog.wantsStandIn t = false by simpa using List.all_eq_true.1 hall t hm)⟩)
    (by kernel_rfl)
end Go.Proofs.YtbdpkblldffkcaaGreatDoor.queryNames
namespace Go.Proofs.YtbdpkblldffkcaaGreatDoor
/-- The card, under a short name, for the claim. -/
theorem queryNames_holds : Rows.QueryNamesCardSaid := queryNames.card
end Go.Proofs.YtbdpkblldffkcaaGreatDoor
