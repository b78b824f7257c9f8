/- The walk of sum.split: the eight bytes of a number, lowest first. -/
import Derived.Test.YtmddjfplkifdmaaPSumPlacex
import Derived.LoopN
import Derived.Outline
namespace Go.Proofs.Ytmddjfplkifdmaa.Split
open Go.RowKit Go.Proofs.YtmddjfplkifdmaaW.PrintWords
set_option linter.unusedVariables false
set_option linter.unusedSimpArgs false
/-- The bytes of a number, lowest first. -/
def ob (h : Int) (i : Nat) : Int := h / 256 ^ i % 256
set_option maxHeartbeats 4000000 in
set_option maxRecDepth 100000 in
theorem split_any (h : Int) (w : World) (h0 : 0 ≤ h) :
    Calls Try.prog 34 #[.int .u64 h] w fun e w' => e = .returned (.agg #[.int .u8 (ob h 0), .int .u8 (ob h 1), .int .u8 (ob h 2), .int .u8 (ob h 3), .int .u8 (ob h 4), .int .u8 (ob h 5), .int .u8 (ob h 6), .int .u8 (ob h 7)]) ∧ w' = (w.alloc (.cells #[.int .u8 (ob h 0), .int .u8 (ob h 1), .int .u8 (ob h 2), .int .u8 (ob h 3), .int .u8 (ob h 4), .int .u8 (ob h 5), .int .u8 (ob h 6), .int .u8 (ob h 7)] 49)).alloc (.cells #[.int .u8 (ob h 0), .int .u8 (ob h 1), .int .u8 (ob h 2), .int .u8 (ob h 3), .int .u8 (ob h 4), .int .u8 (ob h 5), .int .u8 (ob h 6), .int .u8 (ob h 7)] 49) := by
  go_enter Try.func34, Try.ntmps34
  go_wp2
  refine wp_loop_rounds 9 ?_
  iterate 9 (rw [rounds_succ]; go_wp2)
  refine bodyPost_ret (v := .agg #[.int .u8 (ob h 0), .int .u8 (ob h 1), .int .u8 (ob h 2), .int .u8 (ob h 3), .int .u8 (ob h 4), .int .u8 (ob h 5), .int .u8 (ob h 6), .int .u8 (ob h 7)]) (by simp [ob, results, Try.results34, go_sem]; done) rfl ⟨rfl, by simp [ob]⟩
end Go.Proofs.Ytmddjfplkifdmaa.Split
