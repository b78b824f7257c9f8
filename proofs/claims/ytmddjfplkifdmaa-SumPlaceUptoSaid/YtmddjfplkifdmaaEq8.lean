/- '==' of two arrays of eight bytes. -/
import Derived.Test.YtmddjfplkifdmaaProg
import Derived.WalkKit
import Derived.KernelRfl
import Derived.ChangeKeysEq
namespace Go.Proofs.Ytmddjfplkifdmaa.Eq8
open Go.RowKit
set_option linter.unusedSimpArgs false
theorem cells5 : Try.prog.cellsOf 5 = 1 := by kernel_rfl
theorem info49 : ∃ i, Try.prog.info? 5 = some i ∧ i.size = 1 := ⟨_, rfl, rfl⟩
theorem eql8 (w : World) (a0 a1 a2 a3 a4 a5 a6 a7 b0 b1 b2 b3 b4 b5 b6 b7 : Int) :
    (binOp .eql 49 (.agg #[.int .u8 a0, .int .u8 a1, .int .u8 a2, .int .u8 a3, .int .u8 a4, .int .u8 a5, .int .u8 a6, .int .u8 a7]) (.agg #[.int .u8 b0, .int .u8 b1, .int .u8 b2, .int .u8 b3, .int .u8 b4, .int .u8 b5, .int .u8 b6, .int .u8 b7])).run Try.prog w =
      .ok (.bool (a0 == b0 && (a1 == b1 && (a2 == b2 && (a3 == b3 && (a4 == b4 && (a5 == b5 && (a6 == b6 && a7 == b7)))))))) w := by
  obtain ⟨i, hi, hs⟩ := info49
  simp only [binOp]
  have e : (10000 : Nat) = 9998 + 1 + 1 := rfl
  simp only [Op.equal, Op.maxDepth, e]
  simp only [Sem.run_bind, run_equalIn_array w (9998 + 1) _ _ Try.underlying49 hi, cells5]
  have hk : Try.prog.plainKey 5 = true := by kernel_rfl
  have hp : ∀ (xs : Array Value) (n : Nat) (v : Value) (W : World), xs[n]? = some v → (part 5 xs n).run Try.prog W = .ok v W := fun xs n v W h => run_part_plain (w := W) hk h
  have hi5 : ∀ (a b : Int) (W : World), (Op.equalIn (9998 + 1) 5 (.int .u8 a) (.int .u8 b)).run Try.prog W = .ok (a == b) W := fun a b W => run_equalIn_int W 9998 5 .u8 .u8 a b Try.underlying5
  have step : ∀ (xs ys : Array Value) (j : Nat) (js : List Nat) (a b : Int) (W : World), xs[j]? = some (.int .u8 a) → ys[j]? = some (.int .u8 b) → (Op.eqItems (9998 + 1) 5 1 xs ys (j :: js)).run Try.prog W = if (a == b) = true then (Op.eqItems (9998 + 1) 5 1 xs ys js).run Try.prog W else .ok false W := by
    intro xs ys j js a b W hx hy
    simp only [Op.eqItems, Sem.run_bind, Nat.mul_one]
    rw [hp _ j _ W hx]; simp only [Result.andThen_ok]
    rw [hp _ j _ W hy]; simp only [Result.andThen_ok, hi5]
    cases (a == b) <;> simp
  have fin : ∀ (xs ys : Array Value) (W : World), (Op.eqItems (9998 + 1) 5 1 xs ys []).run Try.prog W = .ok true W := fun xs ys W => by simp [Op.eqItems]
  simp only [List.range, List.range.loop]
  rw [step _ _ 0 _ a0 b0 w rfl rfl]
  rw [step _ _ 1 _ a1 b1 w rfl rfl]
  rw [step _ _ 2 _ a2 b2 w rfl rfl]
  rw [step _ _ 3 _ a3 b3 w rfl rfl]
  rw [step _ _ 4 _ a4 b4 w rfl rfl]
  rw [step _ _ 5 _ a5 b5 w rfl rfl]
  rw [step _ _ 6 _ a6 b6 w rfl rfl]
  rw [step _ _ 7 _ a7 b7 w rfl rfl]
  rw [fin]
  cases (a0 == b0) <;> cases (a1 == b1) <;> cases (a2 == b2) <;> cases (a3 == b3) <;> cases (a4 == b4) <;> cases (a5 == b5) <;> cases (a6 == b6) <;> cases (a7 == b7) <;> rfl
end Go.Proofs.Ytmddjfplkifdmaa.Eq8
