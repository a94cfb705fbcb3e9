/- QueryNames: the A-machine answers true. -/
import Derived.Test.YtbdpkblldffkcaaGreatDoorBc
import Derived.Test.YtbdpkblldffkcaaGreatDoorBd
set_option linter.unusedSectionVars false
set_option linter.unnecessarySimpa false
set_option linter.deprecated false
set_option linter.unusedVariables false
set_option linter.unusedSimpArgs false
namespace Go.AM.T
set_option linter.unusedVariables false
set_option linter.unusedSimpArgs false
set_option maxRecDepth 100000

theorem OutL.lt {v : AV} {H : Heap} {l : List Str} (h : OutL v H l) {b n : Nat} (e : v = .sl b 0 n none) : b < H.length := by
  rcases h with ⟨rfl, _⟩ | ⟨c, h1, h2, _⟩
  · cases e
  · rw [h1] at e; injection e with e; subst e; exact (List.getElem?_eq_some_iff.1 h2).1
theorem r140 {a : AV} {d : Doc} (h : IsDoc a d) (H : Heap) : Ret env 140 [a] H (.bool true) H := by
  have hna : AV.noIdsL [a] = true := by simp [AV.noIdsL, h.noIds]
  refine Ret.isoX (f := c140) rfl rfl rfl (PubL.plain hna) (Eq.mpr (x140 _ _ _ _) ?_)
  rw [hna]
  have hd := h
  obtain ⟨os, fs, rfl, ho, hf⟩ := h
  have fin : ∀ {H : Heap}, Pub (!true) H (.bool true) (.bool true) := fun {_} => Pub.scalar rfl
  rw [boxP_agg _ _ _ (by simp only [List.all_cons, List.all_nil, ho.cell, hf.cell]; rfl)]
  generalize hH1 : ([] ++ [Blk.cells [os, fs]] : Heap) = H1
  have g0 : H1[0]? = some (.cells [os, fs]) := by rw [← hH1]; rfl
  have l1 : H1.length = 1 := by rw [← hH1]; rfl
  show callP env 141 [] H1 _
  rw [callP_eq (callF_awake H1)]
  refine ⟨_, notB _, splitB_bool (fun h => by simp at h) fun _ => ?_⟩
  refine ⟨.agg [os, fs], load_cells0 (b := 0) g0 rfl, ?_⟩
  obtain ⟨_, ⟨q, rfl, _⟩, hr⟩ := r142 hd H1
  refine ⟨_, _, hr, _, notB _, splitB_bool (fun _ => ?_) fun _ => ?_⟩
  · rw [callP_eq (callF_awake H1)]; exact fin
  refine ⟨_, rfl, os, load_cells (b := 0) g0 rfl, _, ho.len _, ?_⟩
  have hs := ho.big
  have hshort : d.ops.length < 4611686018427387904 := ho.short (by decide)
  refine ⟨fun n f H3 => ∃ i : Nat, i + n = d.ops.length ∧ f 19 = I ↑i ∧ OutL (f 3) H3 (opNames (d.ops.take i)) ∧ GrowH H1 H3 ∧ ∀ b n, f 3 = .sl b 0 n none → H1.length ≤ b, ⟨d.ops.length, 0, by simp, rfl, by simpa [opNames] using OutL.nil _, GrowH.refl _, fun b n e => (by cases e)⟩, ?_⟩
  rintro n f H3 ⟨i, hi, h9, h3, g3, hb3⟩
  rw [h9, lssI, getP_some, splitB_iff]
  refine ⟨fun hlt => ?_, fun hge => ?_⟩
  · have hlt : i < d.ops.length := by simpa using hlt
    obtain ⟨x, hx, ha⟩ := ho.at (sh := some 6) (fun x z h => by obtain ⟨va, di, se, rfl, _⟩ := h; rfl) (k := .i64) hlt
    obtain ⟨cs, rfl, hc6, hall, hc1⟩ := op_cells hx
    refine ⟨_, ha, _, load_dn hc6 _, box_copy rfl rfl hc6 hall ?_⟩
    have g4 : (H3 ++ [Blk.cells cs])[H3.length]? = some (.cells cs) := by simp
    have gg := g3.trans (GrowH.app H3 [Blk.cells cs])
    have hsm : (opNames (d.ops.take i)).length ≤ 8796093022000 := by
      have := opNames_len (d.ops.take i)
      simp only [List.length_take] at this
      simp only [BIG] at hs; omega
    refine ⟨_, rfl, .str d.ops[i].n, load_cells g4 hc1, _, neqS _ _, ?_⟩
    have e := opNames_succ hlt
    refine splitB_bool (fun hne => ?_) fun heq => ?_
    · refine ⟨_, rfl, .str d.ops[i].n, load_cells g4 hc1, ?_⟩
      obtain ⟨v', H', q1, q2, q3, q4⟩ := app1G gg (h3.growH (GrowH.app H3 _)) hb3 d.ops[i].n hsm
      rw [q4, add1 (by omega), getP_some]
      refine ⟨n - 1, by omega, i + 1, by omega, rfl, ?_, q2, q3⟩
      rw [e, if_pos hne]; exact q1
    · rw [add1 (by omega), getP_some]
      refine ⟨n - 1, by omega, i + 1, by omega, rfl, ?_, gg, hb3⟩
      rw [e, if_neg (by simp [heq]), List.append_nil]; exact h3.growH (GrowH.app H3 _)
  · have hge : d.ops.length ≤ i := by have := of_decide_eq_false hge; omega
    rw [List.take_of_length_le hge] at h3
    have hL : ShortL (opNames d.ops) := by have := opNames_len d.ops; simp only [ShortL]; omega
    refine ⟨.agg [os, fs], load_cells0 (b := 0) (g3.at g0) rfl, ?_⟩
    obtain ⟨v, H4, ⟨o4, g4, b4⟩, hr⟩ := r143 hd H3
    have hrest : ∀ {H5 : Heap} {w : AV}, OutL w H5 (opNames d.ops) → OutL (f 3) H5 (opNames d.ops) → Ret env 9 [w, f 3] H5 (.bool true) H5 := by
      intro H5 w h5 h6
      have := r9 (ostr_ordO_like _) (ostr_ordO_like _) hL hL (args := [w, f 3]) (H := H5) (PubL.of (.cons h5.pub (.cons h6.pub .nil)))
      simpa using this
    refine ⟨_, _, hr, _, _, hrest o4 (h3.growH g4), _, notB _, splitB_bool (fun h => by simp at h) fun _ => ?_⟩
    refine ⟨_, o4.len _, ?_⟩
    refine ⟨fun n f2 H5 => ∃ j : Nat, j + n = (opNames d.ops).length ∧ f2 40 = I ↑j ∧ (∀ b m, v = .sl b 0 m none → ∃ cs, H5[b]? = some (.arr 1 0 0 cs) ∧ cs.length = (opNames d.ops).length) ∧ ∀ (c : Nat) (x : Blk), H4[c]? = some x → (∀ b m, v = .sl b 0 m none → c ≠ b) → H5[c]? = some x, ⟨(opNames d.ops).length, 0, by simp, rfl, fun b m e => ?_, fun _ _ h _ => h⟩, ?_⟩
    · rcases o4 with ⟨rfl, _⟩ | ⟨c, h1, h2, _⟩
      · cases e
      · rw [h1] at e; injection e with e; subst e; exact ⟨_, h2, by simp⟩
    rintro n2 f2 H5 ⟨j, hj, h40, hv, hk⟩
    rw [h40, lssI, getP_some, splitB_iff]
    refine ⟨fun hlt => ?_, fun hge2 => ?_⟩
    · have hlt : j < (opNames d.ops).length := by simpa using hlt
      rcases o4 with ⟨rfl, e⟩ | ⟨b, rfl, h2, h6⟩
      · rw [e] at hlt; simp at hlt
      · obtain ⟨cs, hcs, hcl⟩ := hv b _ rfl
        refine ⟨_, iaddr_sl hlt, _, store_arr hcs (Nat.zero_le _) (by omega) rfl, _, add1 (by omega), ?_⟩
        have hbl := (List.getElem?_eq_some_iff.1 hcs).1
        refine ⟨n2 - 1, by omega, j + 1, by omega, rfl, fun c m e => ?_, fun c x hc hne => ?_⟩
        · injection e with e; subst e
          exact ⟨_, by rw [List.getElem?_set_self hbl], by simpa using hcl⟩
        · have := hne b _ rfl
          rw [List.getElem?_set_ne (Ne.symm this)]
          exact hk c x hc hne
    · have l3 := g3.1
      have h0 : H5[0]? = some (.cells [os, fs]) := hk 0 _ (g4.at (g3.at g0)) fun b m e => by have := b4 b m e; omega
      refine ⟨.agg [os, fs], load_cells0 (b := 0) h0 rfl, ?_⟩
      obtain ⟨w, H6, ⟨o6, g6, b6⟩, hr⟩ := r143 hd H5
      have h35 : OutL (f 3) H5 (opNames d.ops) := by
        rcases h3 with h3' | ⟨b, h1, h2, h6⟩
        · exact .inl h3'
        · refine .inr ⟨b, h1, hk b _ (g4.at h2) fun c m e => ?_, h6⟩
          have := b4 c m e
          have := (List.getElem?_eq_some_iff.1 h2).1
          omega
      exact ⟨_, _, hr, _, _, hrest o6 (h35.growH g6), fin⟩
end Go.AM.T
