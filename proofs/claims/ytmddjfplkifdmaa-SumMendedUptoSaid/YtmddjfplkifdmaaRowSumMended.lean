/- For every list of bytes, number and byte whose readings are together of bulk at most 1048576: SumMended answers true and leaves the list as it was. -/
import Derived.Test.YtmddjfplkifdmaaRows
import Derived.Test.YtmddjfplkifdmaaInOpen
import Derived.WalkKit
import Derived.ProofKit
import Derived.OpenShut
import Derived.ShutString
import Derived.ChangeOld
import Derived.Below
import Derived.SizedLaws
import Derived.Deep.CondSized
import Derived.Test.YtmddjfplkifdmaaQSumMendedx
import Derived.Test.YtmddjfplkifdmaaPureSumMended
namespace Go.Proofs.Ytmddjfplkifdmaa.sumMended
open Go.ChangeShapes Go.WideShapes Go.ChangeAt Go.RowKit Go.Proofs.YtmddjfplkifdmaaW.PrintWords
set_option linter.unusedVariables false
set_option linter.unusedSimpArgs false
theorem own : ownKnob Try.prog.godebug = none := by kernel_rfl
theorem laidOut : laidOutB Try.prog = true := by kernel_rfl
def bytesZ (l : List Int) : Nat := 1 + In.zsum (fun _ => 1) l
def bytesG (l : List Int) : Prop := l.length * 1 ≤ 140737488351232 ∧ ∀ x ∈ l, (Lit.int .u8 x).wf = true
theorem bytes : In.Opens Try.prog 22 (Kd.slice 5 (Kd.int .u8)) bytesZ bytesG := In.opens_slice Try.underlying22 (by kernel_rfl) (by kernel_rfl) (In.opens_int Try.underlying5 (by kernel_rfl))
/-- What is owed: the law's Go function, called with what reads so, answers true and leaves all as it was. -/
def Walk : Prop := ∀ (w : World) (A0 : Option Addr) (c0 : Nat) (l0 : List Int) (_ : Kd.C (Kd.int .u8) w A0 l0.length l0) (_ : l0.length ≤ c0) (_ : bytesG l0) (_ : bytesZ l0 ≤ 1048576) (a1 : Int) (_ : (Lit.int .i64 a1).wf = true) (a2 : Int) (_ : (Lit.int .u8 a2).wf = true), Calls Try.prog 12 #[.slice A0 l0.length c0, .int .i64 a1, .int .u8 a2] w fun e w' => e = .returned (.bool true) ∧ Below w.heap.size w w'
set_option maxRecDepth 100000 in
theorem lifted (walk : Walk) (os : Os) (started : os.Started) (H : Type) (enc : TypeId × Value → H) (F : Stop.Interp) :
    ReturnsInHanded {} Try.checked os 12 .any ((Rows.OpenSpec.upto Rows.sumMendedSpec).pre6 enc Try.prog Try.f12 Rows.sumMendedUptoRow.domain false) (((Rows.OpenSpec.upto Rows.sumMendedSpec).at F).post enc Try.prog Try.f12 false true false false) := by
  refine returnsInHanded_of_cond_sized (C := Try.checked) (s := Rows.OpenSpec.upto Rows.sumMendedSpec) (k := Rows.uptoSmall) rfl own started (by kernel_rfl) Try.func12
    (OpenSpec.witness (enc := enc) (C := Try.checked) (s := Rows.OpenSpec.upto Rows.sumMendedSpec) (k := Rows.uptoSmall) rfl false ⟨#[], #[.slice none 0 0, .int .i64 0, .int .u8 0], []⟩ 8 (by kernel_rfl) (by kernel_rfl) (by kernel_rfl)
      (x := ([.nil, .lit (.int .i64 0), .lit (.int .u8 0)], [], [])) (by kernel_rfl) rfl (by kernel_rfl)) ?_
  intro W base args ds gs before hval0 hW hcnd hk hsz0 _
  have hsz : (DataW.weightsEach Try.prog (Try.f12.params.toList ++ Rows.sumMendedSpec.plain.varTypes Try.prog) (ds ++ gs)).all (· ≤ reachBytes) = true := hsz0
  have hval : ∀ (j : Nat) t v, Try.f12.params[j]? = some t → args[j]? = some v → Value.okWide Try.prog W .any base t v := hval0
  have hW' := hW
  obtain ⟨p, q, hA0, hV, rfl, hfz, hnd⟩ := hW
  have hA : DataW.TrodAll enc Try.prog W 0 (fun _ => true) true Try.f12.params.toList args.toList ds p := hA0
  rw [Try.params12] at hA hval hsz
  obtain ⟨v0, vs0, d0, ds0, p0, q0, hargs, rfl, rfl, h0, r0⟩ := trodAll_cons hA
  obtain ⟨v1, vs1, d1, ds1, p1, q1, rfl, rfl, rfl, h1, r1⟩ := trodAll_cons r0
  obtain ⟨v2, vs2, d2, ds2, p2, q2, rfl, rfl, rfl, h2, r2⟩ := trodAll_cons r1
  obtain ⟨rfl, rfl, rfl⟩ := trodAll_nil r2
  obtain rfl : args = #[v0, v1, v2] := by cases args; simp_all
  obtain ⟨rfl, rfl⟩ := trodVars_none hV
  obtain ⟨A0, n0, c0, rfl⟩ := okWide_slice Try.underlying22 (hval 0 22 v0 rfl rfl)
  have k0 := h0
  have lt0 : ∀ x ∈ p0, x.block < W.heap.size := by obtain ⟨m, hm⟩ := k0; exact DataW.trod_lt m _ _ _ hm
  obtain ⟨l0, rfl, hc0, hC0, hZ0, hG0⟩ := In.slice_arg bytes h0 (In.reach_each hsz (j := 0) rfl rfl)
  obtain ⟨a1, rfl, rfl, rfl, w1⟩ := open_int Try.underlying3 (hval 1 3 v1 rfl rfl) h1
  obtain ⟨a2, rfl, rfl, rfl, w2⟩ := open_int Try.underlying5 (hval 2 5 v2 rfl rfl) h2
  clear hA0 hval0 hsz0
  refine (walk W A0 c0 l0 hC0 hc0 hG0 (Nat.le_trans hZ0 (In.small hk (by simp))) a1 w1 a2 w2).mono fun e W' ⟨he, bel⟩ => ?_
  subst he
  exact ⟨_, rfl, _, _, _, [], _, [], hW', trodAll_mk1 (shut_bool Try.underlying4 _), (trodAll_cons_mk (Below.trod laidOut (by kernel_rfl) (of_decide_eq_true (by kernel_rfl)) k0 bel lt0) (trodAll_cons_mk (shut_int Try.underlying3 w1) (trodAll_cons_mk (shut_int Try.underlying5 w2) (trodAll_mk0)))), rfl, bel.frame _, fun h => by cases h⟩
theorem over (walk : Walk) : Rows.SumMendedUptoSaid :=
  OpenClaim.holds_of_cond 12 Try.f12 rfl rfl rfl rfl rfl rfl rfl ⟨rfl, rfl, rfl, rfl, rfl⟩ rfl rfl rfl rfl rfl (by kernel_rfl) Try.func12 (by kernel_rfl)
    (of_decide_eq_true (by kernel_rfl)) (by unfold Func.isWrapper; first | (rw [if_pos (by decide +kernel)]; kernel_rfl) | (rw [if_neg (by decide +kernel)]; exact ⟨rfl, rfl⟩))
    (fun os started H enc _ F => lifted walk os started H enc F)
theorem walk : Walk := by
  intro w A0 c0 l0 hC hc hG hZ a1 h1 a2 h2
  obtain ⟨k, h⟩ := Pure.SumMended_small l0 a1 a2 (by have := In.zsum_len (Z := fun _ : Int => 1) (l := l0) (fun _ _ => Nat.le_refl _); unfold bytesZ at hZ; omega) hG.2 h1 h2
  exact (QSumMended.annexlaw2_SumMended.calls k A0 c0 l0 a1 a2 true w hC hc h).mono fun e w' h => h
theorem proved : Rows.SumMendedUptoSaid := over walk
#print axioms proved
end Go.Proofs.Ytmddjfplkifdmaa.sumMended
namespace Go.Proofs.Ytmddjfplkifdmaa
theorem sumMendedUpto_holds : Rows.SumMendedUptoSaid := sumMended.proved
end Go.Proofs.Ytmddjfplkifdmaa
