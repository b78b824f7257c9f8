/- Plain facts on the sums of bytes over whole numbers: no Go, no memory. -/
import Derived.Test.YtmddjfplkifdmaaWWords
namespace Go.Proofs.Ytmddjfplkifdmaa.SumPlain
open Go.RowKit Go.Proofs.YtmddjfplkifdmaaW.PrintWords
set_option linter.unusedVariables false
set_option linter.unusedSimpArgs false

def prime : Int := 1099511628211
def inv : Int := 14886173955864302971
def bv (h : Int) : BitVec 64 := BitVec.ofInt 64 h
def stepN (h x : Int) : Int := IntKind.u64.wrap ((Go.bits .xor .u64 h (IntKind.u64.wrap x)) * 1099511628211)
def backN (h x : Int) : Int := Go.bits .xor .u64 (IntKind.u64.wrap (h * 14886173955864302971)) (IntKind.u64.wrap x)
def moreN (h : Int) (l : List Int) : Int := l.foldl stepN h
def backsN (h : Int) (l : List Int) : Int := l.foldr (fun x g => backN g x) h

theorem wrap_u64 (n : Int) : IntKind.u64.wrap n = n % 18446744073709551616 := by simp [IntKind.wrap, IntKind.bits, IntKind.signed]
theorem wrap_range (n : Int) : 0 ≤ IntKind.u64.wrap n ∧ IntKind.u64.wrap n < 18446744073709551616 := by rw [wrap_u64]; omega
theorem wf_range {n : Int} (h : (Lit.int .u64 n).wf = true) : 0 ≤ n ∧ n < 18446744073709551616 := by
  simp only [Lit.wf, IntKind.min, IntKind.max, IntKind.signed, IntKind.bits, Bool.and_eq_true, decide_eq_true_eq] at h
  simp at h
  omega
theorem wf8_range {n : Int} (h : (Lit.int .u8 n).wf = true) : 0 ≤ n ∧ n < 256 := by
  simp only [Lit.wf, IntKind.min, IntKind.max, IntKind.signed, IntKind.bits, Bool.and_eq_true, decide_eq_true_eq] at h
  simp at h
  omega
theorem toNat_bv (n : Int) : ((bv n).toNat : Int) = n % 18446744073709551616 := by
  unfold bv
  rw [BitVec.toNat_ofInt]
  have : (0:Int) ≤ n % 18446744073709551616 := by omega
  simp
  omega
theorem toNat_bv_of {n : Int} (h0 : 0 ≤ n) (h1 : n < 18446744073709551616) : ((bv n).toNat : Int) = n := by rw [toNat_bv]; omega
theorem bv_nat (b : BitVec 64) : bv (b.toNat : Int) = b := by
  apply BitVec.eq_of_toNat_eq
  have := toNat_bv (b.toNat : Int)
  have := b.isLt
  omega
theorem bv_wrap (n : Int) : bv (IntKind.u64.wrap n) = bv n := by
  apply BitVec.eq_of_toNat_eq
  have := toNat_bv (IntKind.u64.wrap n)
  have := toNat_bv n
  rw [wrap_u64] at *
  omega
theorem wrap_bv (n : Int) : IntKind.u64.wrap n = ((bv n).toNat : Int) := by rw [wrap_u64, toNat_bv]
theorem xor_bv (a b : Int) : Go.bits .xor .u64 a b = (((bv a) ^^^ (bv b)).toNat : Int) := by
  unfold Go.bits
  show IntKind.u64.wrap (((bv a) ^^^ (bv b)).toNat : Int) = _
  rw [wrap_bv, bv_nat]
theorem bv_mul (a b : Int) : bv (a * b) = bv a * bv b := by unfold bv; rw [BitVec.ofInt_mul]
theorem stepN_bv (h x : Int) : stepN h x = ((((bv h) ^^^ (bv x)) * (bv 1099511628211)).toNat : Int) := by
  unfold stepN
  rw [wrap_bv, bv_mul, xor_bv, bv_nat, bv_wrap]
theorem backN_bv (h x : Int) : backN h x = ((((bv h) * (bv 14886173955864302971)) ^^^ (bv x)).toNat : Int) := by
  unfold backN
  rw [xor_bv, bv_wrap, bv_wrap, bv_mul]
theorem prime_inv : bv 1099511628211 * bv 14886173955864302971 = 1#64 := by decide
theorem inv_prime : bv 14886173955864302971 * bv 1099511628211 = 1#64 := by decide
theorem stepN_range (h x : Int) : 0 ≤ stepN h x ∧ stepN h x < 18446744073709551616 := wrap_range _
theorem backN_range (h x : Int) : 0 ≤ backN h x ∧ backN h x < 18446744073709551616 := by
  rw [backN_bv]
  have := (((bv h) * (bv 14886173955864302971)) ^^^ (bv x)).isLt
  omega
theorem back_step (h x : Int) (h0 : 0 ≤ h) (h1 : h < 18446744073709551616) : backN (stepN h x) x = h := by
  rw [backN_bv, stepN_bv, bv_nat, BitVec.mul_assoc, prime_inv, BitVec.mul_one, BitVec.xor_assoc, BitVec.xor_self, BitVec.xor_zero]
  exact toNat_bv_of h0 h1
theorem step_back (h x : Int) (h0 : 0 ≤ h) (h1 : h < 18446744073709551616) : stepN (backN h x) x = h := by
  rw [stepN_bv, backN_bv, bv_nat, BitVec.xor_assoc, BitVec.xor_self, BitVec.xor_zero, BitVec.mul_assoc, inv_prime, BitVec.mul_one]
  exact toNat_bv_of h0 h1
theorem moreN_range (l : List Int) : ∀ h : Int, 0 ≤ h → h < 18446744073709551616 → 0 ≤ moreN h l ∧ moreN h l < 18446744073709551616 := by
  induction l with
  | nil => intro h h0 h1; exact ⟨h0, h1⟩
  | cons x l ih => intro h _ _; exact ih (stepN h x) (stepN_range h x).1 (stepN_range h x).2
theorem backsN_range (l : List Int) (h : Int) (h0 : 0 ≤ h) (h1 : h < 18446744073709551616) : 0 ≤ backsN h l ∧ backsN h l < 18446744073709551616 := by
  cases l with
  | nil => exact ⟨h0, h1⟩
  | cons x l => exact backN_range _ _
theorem moreN_append (h : Int) (a b : List Int) : moreN h (a ++ b) = moreN (moreN h a) b := List.foldl_append ..
theorem backsN_append (h : Int) (a b : List Int) : backsN h (a ++ b) = backsN (backsN h b) a := List.foldr_append ..
theorem backs_more (l : List Int) : ∀ h : Int, 0 ≤ h → h < 18446744073709551616 → backsN (moreN h l) l = h := by
  induction l with
  | nil => intro h _ _; rfl
  | cons x l ih =>
    intro h h0 h1
    show backN (backsN (moreN (stepN h x) l) l) x = h
    rw [ih _ (stepN_range h x).1 (stepN_range h x).2]
    exact back_step h x h0 h1
theorem more_backs (l : List Int) (h : Int) (h0 : 0 ≤ h) (h1 : h < 18446744073709551616) : moreN (backsN h l) l = h := by
  induction l with
  | nil => rfl
  | cons x l ih =>
    show moreN (stepN (backN (backsN h l) x) x) l = h
    rw [step_back _ x (backsN_range l h h0 h1).1 (backsN_range l h h0 h1).2]
    exact ih
theorem moreN_inj (l : List Int) (g h : Int) (g0 : 0 ≤ g) (g1 : g < 18446744073709551616) (h0 : 0 ≤ h) (h1 : h < 18446744073709551616) : moreN g l = moreN h l ↔ g = h :=
  ⟨fun e => by rw [← backs_more l g g0 g1, e, backs_more l h h0 h1], fun e => by rw [e]⟩
theorem backsN_inj (l : List Int) (g h : Int) (g0 : 0 ≤ g) (g1 : g < 18446744073709551616) (h0 : 0 ≤ h) (h1 : h < 18446744073709551616) : backsN g l = backsN h l ↔ g = h :=
  ⟨fun e => by rw [← more_backs l g g0 g1, e, more_backs l h h0 h1], fun e => by rw [e]⟩
theorem rd_at (l : List Int) (i : Nat) (h : i < l.length) : rd l (i : Int) = l[i] := by simp [rd, h]
theorem wrap_up {i n : Nat} (h : i < n) (hn : n ≤ 140737488355328) : wrap64 ((i : Int) + 1) = ((i + 1 : Nat) : Int) := by unfold wrap64; omega
theorem wrap_down {i n : Nat} (h : i ≤ n) (hn : n ≤ 140737488355328) : wrap64 ((i : Int) - 1) = (i : Int) - 1 := by unfold wrap64; omega
def marks : List Int := [200, 201, 202, 203, 204, 205, 206, 207, 208]
theorem mark_fin : ∀ i : Fin 9, (wrap64 (200 + ((i : Nat) : Int))) % 256 = marks[(i : Nat)]'(i.isLt) := by decide +kernel
theorem mark_at (i : Nat) (h : i < marks.length) : (wrap64 (200 + (i : Int))) % 256 = marks[i] := mark_fin ⟨i, h⟩
end Go.Proofs.Ytmddjfplkifdmaa.SumPlain
