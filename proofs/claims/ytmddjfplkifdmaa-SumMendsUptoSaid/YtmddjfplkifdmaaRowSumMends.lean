/- For every number and list of bytes whose readings are together of bulk at most 1048576: SumMends answers true and leaves the list as it was. -/
import Derived.Test.YtmddjfplkifdmaaRows
import Derived.Test.YtmddjfplkifdmaaInOpen
import Derived.WalkKit
import Derived.ProofKit
import Derived.OpenShut
import Derived.ShutString
import Derived.ChangeOld
import Derived.Below
import Derived.SizedLaws
import Derived.Deep.CondSized
import Derived.Test.YtmddjfplkifdmaaQSumMendsx
import Derived.Test.YtmddjfplkifdmaaPureSumMends
namespace Go.Proofs.Ytmddjfplkifdmaa.sumMends
open Go.ChangeShapes Go.WideShapes Go.ChangeAt Go.RowKit Go.Proofs.YtmddjfplkifdmaaW.PrintWords
set_option linter.unusedVariables false
set_option linter.unusedSimpArgs false
theorem own : ownKnob Try.prog.godebug = none := by kernel_rfl
theorem laidOut : laidOutB Try.prog = true := by kernel_rfl
def bytesZ (l : List Int) : Nat := 1 + In.zsum (fun _ => 1) l
def bytesG (l : List Int) : Prop := l.length * 1 ≤ 140737488351232 ∧ ∀ x ∈ l, (Lit.int .u8 x).wf = true
theorem bytes : In.Opens Try.prog 22 (Kd.slice 5 (Kd.int .u8)) bytesZ bytesG := In.opens_slice Try.underlying22 (by kernel_rfl) (by kernel_rfl) (In.opens_int Try.underlying5 (by kernel_rfl))
/-- What is owed: the law's Go function, called with what reads so, answers true and leaves all as it was. -/
def Walk : Prop := ∀ (w : World) (A0 : Option Addr) (c0 : Nat) (l0 : List Int) (_ : Kd.C (Kd.int .u8) w A0 l0.length l0) (_ : l0.length ≤ c0) (_ : bytesG l0) (_ : bytesZ l0 ≤ 1048576) (a1 : Int) (_ : (Lit.int .u64 a1).wf = true), Calls Try.prog 11 #[.slice A0 l0.length c0, .int .u64 a1] w fun e w' => e = .returned (.bool true) ∧ Below w.heap.size w w'
set_option maxRecDepth 100000 in
theorem lifted (walk : Walk) (os : Os) (started : os.Started) (H : Type) (enc : TypeId × Value → H) (F : Stop.Interp) :
    ReturnsInHanded {} Try.checked os 11 .any ((Rows.OpenSpec.upto Rows.sumMendsSpec).pre6 enc Try.prog Try.f11 Rows.sumMendsUptoRow.domain false) (((Rows.OpenSpec.upto Rows.sumMendsSpec).at F).post enc Try.prog Try.f11 false true false false) := by
  refine returnsInHanded_of_cond_sized (C := Try.checked) (s := Rows.OpenSpec.upto Rows.sumMendsSpec) (k := Rows.uptoSmall) rfl own started (by kernel_rfl) Try.func11
    (OpenSpec.witness (enc := enc) (C := Try.checked) (s := Rows.OpenSpec.upto Rows.sumMendsSpec) (k := Rows.uptoSmall) rfl false ⟨#[], #[.slice none 0 0, .int .u64 0], []⟩ 8 (by kernel_rfl) (by kernel_rfl) (by kernel_rfl)
      (x := ([.nil, .lit (.int .u64 0)], [], [])) (by kernel_rfl) rfl (by kernel_rfl)) ?_
  intro W base args ds gs before hval0 hW hcnd hk hsz0 _
  have hsz : (DataW.weightsEach Try.prog (Try.f11.params.toList ++ Rows.sumMendsSpec.plain.varTypes Try.prog) (ds ++ gs)).all (· ≤ reachBytes) = true := hsz0
  have hval : ∀ (j : Nat) t v, Try.f11.params[j]? = some t → args[j]? = some v → Value.okWide Try.prog W .any base t v := hval0
  have hW' := hW
  obtain ⟨p, q, hA0, hV, rfl, hfz, hnd⟩ := hW
  have hA : DataW.TrodAll enc Try.prog W 0 (fun _ => true) true Try.f11.params.toList args.toList ds p := hA0
  rw [Try.params11] at hA hval hsz
  obtain ⟨v0, vs0, d0, ds0, p0, q0, hargs, rfl, rfl, h0, r0⟩ := trodAll_cons hA
  obtain ⟨v1, vs1, d1, ds1, p1, q1, rfl, rfl, rfl, h1, r1⟩ := trodAll_cons r0
  obtain ⟨rfl, rfl, rfl⟩ := trodAll_nil r1
  obtain rfl : args = #[v0, v1] := by cases args; simp_all
  obtain ⟨rfl, rfl⟩ := trodVars_none hV
  obtain ⟨A0, n0, c0, rfl⟩ := okWide_slice Try.underlying22 (hval 0 22 v0 rfl rfl)
  have k0 := h0
  have lt0 : ∀ x ∈ p0, x.block < W.heap.size := by obtain ⟨m, hm⟩ := k0; exact DataW.trod_lt m _ _ _ hm
  obtain ⟨l0, rfl, hc0, hC0, hZ0, hG0⟩ := In.slice_arg bytes h0 (In.reach_each hsz (j := 0) rfl rfl)
  obtain ⟨a1, rfl, rfl, rfl, w1⟩ := open_int Try.underlying25 (hval 1 25 v1 rfl rfl) h1
  clear hA0 hval0 hsz0
  refine (walk W A0 c0 l0 hC0 hc0 hG0 (Nat.le_trans hZ0 (In.small hk (by simp))) a1 w1).mono fun e W' ⟨he, bel⟩ => ?_
  subst he
  exact ⟨_, rfl, _, _, _, [], _, [], hW', trodAll_mk1 (shut_bool Try.underlying4 _), (trodAll_cons_mk (Below.trod laidOut (by kernel_rfl) (of_decide_eq_true (by kernel_rfl)) k0 bel lt0) (trodAll_cons_mk (shut_int Try.underlying25 w1) (trodAll_mk0))), rfl, bel.frame _, fun h => by cases h⟩
theorem over (walk : Walk) : Rows.SumMendsUptoSaid :=
  OpenClaim.holds_of_cond 11 Try.f11 rfl rfl rfl rfl rfl rfl rfl ⟨rfl, rfl, rfl, rfl, rfl⟩ rfl rfl rfl rfl rfl (by kernel_rfl) Try.func11 (by kernel_rfl)
    (of_decide_eq_true (by kernel_rfl)) (by unfold Func.isWrapper; first | (rw [if_pos (by decide +kernel)]; kernel_rfl) | (rw [if_neg (by decide +kernel)]; exact ⟨rfl, rfl⟩))
    (fun os started H enc _ F => lifted walk os started H enc F)
theorem walk : Walk := by
  intro w A0 c0 l0 hC hc hG hZ a1 h1
  obtain ⟨k, h⟩ := Pure.SumMends_small l0 a1 (by have := In.zsum_len (Z := fun _ : Int => 1) (l := l0) (fun _ _ => Nat.le_refl _); unfold bytesZ at hZ; omega)
  exact (QSumMends.annexlaw2_SumMends.calls k A0 c0 l0 a1 true w hC hc h).mono fun e w' h => h
theorem proved : Rows.SumMendsUptoSaid := over walk
#print axioms proved
end Go.Proofs.Ytmddjfplkifdmaa.sumMends
namespace Go.Proofs.Ytmddjfplkifdmaa
theorem sumMendsUpto_holds : Rows.SumMendsUptoSaid := sumMends.proved
end Go.Proofs.Ytmddjfplkifdmaa
