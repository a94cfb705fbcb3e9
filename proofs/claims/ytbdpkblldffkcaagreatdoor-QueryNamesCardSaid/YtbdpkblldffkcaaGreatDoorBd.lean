/- The fixed fact holds: run by the kernel, the tokens first. -/
import Derived.Test.YtbdpkblldffkcaaGreatDoorTa
import Derived.Test.YtbdpkblldffkcaaGreatDoorAe
import Derived.KernelRfl
set_option linter.unusedSectionVars false
set_option linter.unnecessarySimpa false
set_option linter.deprecated false
set_option linter.unusedVariables false
set_option linter.unusedSimpArgs false
namespace Go.AM.T
set_option maxRecDepth 1000000
def isV (r : Option (AV × Heap)) (v : AV) : Bool := match r with | some (w, []) => AV.beq w v | _ => false
theorem isV_ok {r : Option (AV × Heap)} {v : AV} (h : isV r v = true) : r = some (v, []) := by
  unfold isV at h
  split at h
  · rw [AV.eq_of_beq _ _ h]
  · cases h
def q1 : Str := [113, 117, 101, 114, 121, 32, 81, 40, 36, 97, 58, 32, 73, 110, 116, 32, 61, 32, 49, 41, 32, 123, 98, 58, 32, 99, 40, 120, 58, 32, 36, 97, 41, 32, 64, 105, 110, 99, 108, 117, 100, 101, 40, 105, 102, 58, 32, 116, 114, 117, 101, 41, 32, 123, 46, 46, 46, 70, 125, 125, 32, 102, 114, 97, 103, 109, 101, 110, 116, 32, 70, 32, 111, 110, 32, 84, 32, 123, 100, 125]
def q1L : AV := .tup [.data [.agg [.int .i64 (1), .str [113, 117, 101, 114, 121], .int .i64 (0)], .agg [.int .i64 (1), .str [81], .int .i64 (6)], .agg [.int .i64 (5), .str [40], .int .i64 (7)], .agg [.int .i64 (5), .str [36], .int .i64 (8)], .agg [.int .i64 (1), .str [97], .int .i64 (9)], .agg [.int .i64 (5), .str [58], .int .i64 (10)], .agg [.int .i64 (1), .str [73, 110, 116], .int .i64 (12)], .agg [.int .i64 (5), .str [61], .int .i64 (16)], .agg [.int .i64 (2), .str [49], .int .i64 (18)], .agg [.int .i64 (5), .str [41], .int .i64 (19)], .agg [.int .i64 (5), .str [123], .int .i64 (21)], .agg [.int .i64 (1), .str [98], .int .i64 (22)], .agg [.int .i64 (5), .str [58], .int .i64 (23)], .agg [.int .i64 (1), .str [99], .int .i64 (25)], .agg [.int .i64 (5), .str [40], .int .i64 (26)], .agg [.int .i64 (1), .str [120], .int .i64 (27)], .agg [.int .i64 (5), .str [58], .int .i64 (28)], .agg [.int .i64 (5), .str [36], .int .i64 (30)], .agg [.int .i64 (1), .str [97], .int .i64 (31)], .agg [.int .i64 (5), .str [41], .int .i64 (32)], .agg [.int .i64 (5), .str [64], .int .i64 (34)], .agg [.int .i64 (1), .str [105, 110, 99, 108, 117, 100, 101], .int .i64 (35)], .agg [.int .i64 (5), .str [40], .int .i64 (42)], .agg [.int .i64 (1), .str [105, 102], .int .i64 (43)], .agg [.int .i64 (5), .str [58], .int .i64 (45)], .agg [.int .i64 (1), .str [116, 114, 117, 101], .int .i64 (47)], .agg [.int .i64 (5), .str [41], .int .i64 (51)], .agg [.int .i64 (5), .str [123], .int .i64 (53)], .agg [.int .i64 (5), .str [46, 46, 46], .int .i64 (54)], .agg [.int .i64 (1), .str [70], .int .i64 (57)], .agg [.int .i64 (5), .str [125], .int .i64 (58)], .agg [.int .i64 (5), .str [125], .int .i64 (59)], .agg [.int .i64 (1), .str [102, 114, 97, 103, 109, 101, 110, 116], .int .i64 (61)], .agg [.int .i64 (1), .str [70], .int .i64 (70)], .agg [.int .i64 (1), .str [111, 110], .int .i64 (72)], .agg [.int .i64 (1), .str [84], .int .i64 (75)], .agg [.int .i64 (5), .str [123], .int .i64 (77)], .agg [.int .i64 (1), .str [100], .int .i64 (78)], .agg [.int .i64 (5), .str [125], .int .i64 (79)], .agg [.int .i64 (0), .str [], .int .i64 (80)]], .int .i64 (0), .int .i64 (0)]
theorem lex_q1 : isV (callQ env 10000 166 [.str q1] []) q1L = true := by kernel_rfl
def q2 : Str := [123, 125]
def q2L : AV := .tup [.data [.agg [.int .i64 (5), .str [123], .int .i64 (0)], .agg [.int .i64 (5), .str [125], .int .i64 (1)], .agg [.int .i64 (0), .str [], .int .i64 (2)]], .int .i64 (0), .int .i64 (0)]
theorem lex_q2 : isV (callQ env 10000 166 [.str q2] []) q2L = true := by kernel_rfl
def lexM (args : List AV) (H : Heap) : Option (AV × Heap) := match args with | [.str s] => (match decide (s = q2), decide (s = q1) with | true, _ => some (q2L, H) | _, true => some (q1L, H) | _, _ => none) | _ => none
def awP (g : Nat) : Option (List AV → Heap → Option (AV × Heap)) := match g with | 166 => some lexM | _ => none
theorem awP_ok : ∀ g q, awP g = some q → ∀ args H v H', q args H = some (v, H') → Ret env g args H v H' := by
  intro g q hq args H v H' h
  unfold awP at hq
  split at hq
  · injection hq with hq; subst hq
    unfold lexM at h
    split at h
    · split at h
      · rename_i hs
        have hs := of_decide_eq_true hs
        injection h with h; injection h with h1 h2
        subst h1; subst h2; subst hs
        exact Ret.any (f := c166) rfl rfl rfl rfl (Ret.ofQ (isV_ok lex_q2)) _
      · rename_i hs _
        have hs := of_decide_eq_true hs
        injection h with h; injection h with h1 h2
        subst h1; subst h2; subst hs
        exact Ret.any (f := c166) rfl rfl rfl rfl (Ret.ofQ (isV_ok lex_q1)) _
      · cases h
    · cases h
  · cases hq
theorem awake_run : callQ (env.with awP) 10000 141 [] [] = some (.bool true, []) := by kernel_rfl
theorem callF_awake (H : Heap) : Ret env 141 [] H (.bool true) H := Ret.any (f := c141) rfl rfl rfl rfl (Ret.told awP_ok awake_run) H
end Go.AM.T
