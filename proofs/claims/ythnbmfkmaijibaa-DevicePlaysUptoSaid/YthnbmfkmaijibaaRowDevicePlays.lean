/- For every script of calls of bulk at most 1048576: DevicePlays answers true and leaves all as it was. -/
import Derived.Test.YthnbmfkmaijibaaRows
import Derived.Test.YthnbmfkmaijibaaInOpen
import Derived.WalkKit
import Derived.ProofKit
import Derived.OpenShut
import Derived.ShutString
import Derived.ChangeOld
import Derived.Below
import Derived.SizedLaws
import Derived.Deep.CondSized
import Derived.Test.YthnbmfkmaijibaaMMade
namespace Go.Proofs.Ythnbmfkmaijibaa.devicePlays
open Go.ChangeShapes Go.WideShapes Go.ChangeAt Go.RowKit Go.Proofs.YthnbmfkmaijibaaW.PrintWords
set_option linter.unusedVariables false
set_option linter.unusedSimpArgs false
theorem own : ownKnob Try.prog.godebug = none := by kernel_rfl
theorem laidOut : laidOutB Try.prog = true := by kernel_rfl
set_option maxRecDepth 100000 in
theorem opr : In.Opens Try.prog 83 (Kd.pair (Kd.int .i64) (Kd.pair (Kd.int .i64) (Kd.pair (Kd.int .i64) (Kd.pair (Kd.int .i64) (Kd.pair (Kd.slice 5 (Kd.int .u8)) (Kd.slice 4 Kd.bool)))))) (fun v => 1 + (1 + (1 + (1 + ((1 + In.zsum (fun _ => 1) v.2.2.2.2.1) + (1 + In.zsum (fun _ => 1) v.2.2.2.2.2)))))) (fun v => (Lit.int .i64 v.1).wf = true ∧ (Lit.int .i64 v.2.1).wf = true ∧ (Lit.int .i64 v.2.2.1).wf = true ∧ (Lit.int .i64 v.2.2.2.1).wf = true ∧ (v.2.2.2.2.1.length * 1 ≤ 140737488351232 ∧ ∀ x ∈ v.2.2.2.2.1, (Lit.int .u8 x).wf = true) ∧ (v.2.2.2.2.2.length * 1 ≤ 140737488351232 ∧ ∀ x ∈ v.2.2.2.2.2, True)) :=
  In.opens_struct Try.underlying83 (by kernel_rfl) (In.fields_cons rfl rfl (In.opens_int Try.underlying3 (by kernel_rfl)) rfl (In.fields_cons rfl rfl (In.opens_int Try.underlying3 (by kernel_rfl)) rfl (In.fields_cons rfl rfl (In.opens_int Try.underlying3 (by kernel_rfl)) rfl (In.fields_cons rfl rfl (In.opens_int Try.underlying3 (by kernel_rfl)) rfl (In.fields_cons rfl rfl (In.opens_slice Try.underlying29 (by kernel_rfl) (by kernel_rfl) (In.opens_int Try.underlying5 (by kernel_rfl))) rfl (In.fields_one rfl rfl (In.opens_slice Try.underlying50 (by kernel_rfl) (by kernel_rfl) (In.opens_bool Try.underlying4 (by kernel_rfl)))))))))
def opZ (v : Int × Int × Int × Int × List Int × List Bool) : Nat := 1 + (1 + (1 + (1 + ((1 + In.zsum (fun _ => 1) v.2.2.2.2.1) + (1 + In.zsum (fun _ => 1) v.2.2.2.2.2)))))
def opG (v : Int × Int × Int × Int × List Int × List Bool) : Prop := (Lit.int .i64 v.1).wf = true ∧ (Lit.int .i64 v.2.1).wf = true ∧ (Lit.int .i64 v.2.2.1).wf = true ∧ (Lit.int .i64 v.2.2.2.1).wf = true ∧ (v.2.2.2.2.1.length * 1 ≤ 140737488351232 ∧ ∀ x ∈ v.2.2.2.2.1, (Lit.int .u8 x).wf = true) ∧ (v.2.2.2.2.2.length * 1 ≤ 140737488351232 ∧ ∀ x ∈ v.2.2.2.2.2, True)
def opsZ (l : List (Int × Int × Int × Int × List Int × List Bool)) : Nat := 1 + In.zsum opZ l
def opsG (l : List (Int × Int × Int × Int × List Int × List Bool)) : Prop := l.length * 80 ≤ 140737488351232 ∧ ∀ x ∈ l, opG x
theorem ops : In.Opens Try.prog 74 (Kd.slice 83 (Kd.pair (Kd.int .i64) (Kd.pair (Kd.int .i64) (Kd.pair (Kd.int .i64) (Kd.pair (Kd.int .i64) (Kd.pair (Kd.slice 5 (Kd.int .u8)) (Kd.slice 4 Kd.bool))))))) opsZ opsG := In.opens_slice Try.underlying74 (by kernel_rfl) (by kernel_rfl) opr
theorem zsum_many {l : List (Int × Int × Int × Int × List Int × List Bool)} : 6 * l.length ≤ In.zsum opZ l := by
  induction l with
  | nil => exact Nat.zero_le _
  | cons x l ih =>
    simp only [In.zsum, List.length_cons]
    unfold opZ at ih ⊢
    omega
theorem zsum_ones (l : List Bool) : In.zsum (fun _ => 1) l = l.length := by
  induction l with
  | nil => rfl
  | cons x l ih => simp only [In.zsum, List.length_cons, ih]; omega
/-- What is owed: the law's Go function, called with what reads so, answers true and leaves all as it was. -/
def Walk : Prop := ∀ (w : World) (A0 : Option Addr) (c0 : Nat) (l0 : List (Int × Int × Int × Int × List Int × List Bool)) (_ : Kd.C (Kd.pair (Kd.int .i64) (Kd.pair (Kd.int .i64) (Kd.pair (Kd.int .i64) (Kd.pair (Kd.int .i64) (Kd.pair (Kd.slice 5 (Kd.int .u8)) (Kd.slice 4 Kd.bool)))))) w A0 l0.length l0) (_ : l0.length ≤ c0) (_ : opsG l0) (_ : opsZ l0 ≤ 1048576), Calls Try.prog 10 #[.slice A0 l0.length c0] w fun e w' => e = .returned (.bool true) ∧ Below w.heap.size w w'
set_option maxRecDepth 100000 in
theorem lifted (walk : Walk) (os : Os) (started : os.Started) (H : Type) (enc : TypeId × Value → H) (F : Stop.Interp) :
    ReturnsInHanded {} Try.checked os 10 .any ((Rows.OpenSpec.upto Rows.devicePlaysSpec).pre6 enc Try.prog Try.f10 Rows.devicePlaysUptoRow.domain false) (((Rows.OpenSpec.upto Rows.devicePlaysSpec).at F).post enc Try.prog Try.f10 false true false false) := by
  refine returnsInHanded_of_cond_sized (C := Try.checked) (s := Rows.OpenSpec.upto Rows.devicePlaysSpec) (k := Rows.uptoSmall) rfl own started (by kernel_rfl) Try.func10
    (OpenSpec.witness (enc := enc) (C := Try.checked) (s := Rows.OpenSpec.upto Rows.devicePlaysSpec) (k := Rows.uptoSmall) rfl false ⟨#[], #[.slice none 0 0], []⟩ 8 (by kernel_rfl) (by kernel_rfl) (by kernel_rfl)
      (x := ([.nil], [], [])) (by kernel_rfl) rfl (by kernel_rfl)) ?_
  intro W base args ds gs before hval0 hW hcnd hk hsz0 _
  have hsz : (DataW.weightsEach Try.prog (Try.f10.params.toList ++ Rows.devicePlaysSpec.plain.varTypes Try.prog) (ds ++ gs)).all (· ≤ reachBytes) = true := hsz0
  have hval : ∀ (j : Nat) t v, Try.f10.params[j]? = some t → args[j]? = some v → Value.okWide Try.prog W .any base t v := hval0
  have hW' := hW
  obtain ⟨p, q, hA0, hV, rfl, hfz, hnd⟩ := hW
  have hA : DataW.TrodAll enc Try.prog W 0 (fun _ => true) true Try.f10.params.toList args.toList ds p := hA0
  rw [Try.params10] at hA hval hsz
  obtain ⟨v0, vs0, d0, ds0, p0, q0, hargs, rfl, rfl, h0, r0⟩ := trodAll_cons hA
  obtain ⟨rfl, rfl, rfl⟩ := trodAll_nil r0
  obtain rfl : args = #[v0] := by cases args; simp_all
  obtain ⟨rfl, rfl⟩ := trodVars_none hV
  obtain ⟨A0, n0, c0, rfl⟩ := okWide_slice Try.underlying74 (hval 0 74 v0 rfl rfl)
  have k0 := h0
  have lt0 : ∀ x ∈ p0, x.block < W.heap.size := by obtain ⟨m, hm⟩ := k0; exact DataW.trod_lt m _ _ _ hm
  obtain ⟨l0, rfl, hc0, hC0, hZ0, hG0⟩ := In.slice_arg ops h0 (In.reach_each hsz (j := 0) rfl rfl)
  clear hA0 hval0 hsz0
  refine (walk W A0 c0 l0 hC0 hc0 hG0 (Nat.le_trans hZ0 (In.small hk (by simp)))).mono fun e W' ⟨he, bel⟩ => ?_
  subst he
  exact ⟨_, rfl, _, _, _, [], _, [], hW', trodAll_mk1 (shut_bool Try.underlying4 _), (trodAll_cons_mk (Below.trod laidOut (by kernel_rfl) (of_decide_eq_true (by kernel_rfl)) k0 bel lt0) (trodAll_mk0)), rfl, bel.frame _, fun h => by cases h⟩
theorem over (walk : Walk) : Rows.DevicePlaysUptoSaid :=
  OpenClaim.holds_of_cond 10 Try.f10 rfl rfl rfl rfl rfl rfl rfl ⟨rfl, rfl, rfl, rfl, rfl⟩ rfl rfl rfl rfl rfl (by kernel_rfl) Try.func10 (by kernel_rfl)
    (of_decide_eq_true (by kernel_rfl)) (by unfold Func.isWrapper; first | (rw [if_pos (by decide +kernel)]; kernel_rfl) | (rw [if_neg (by decide +kernel)]; exact ⟨rfl, rfl⟩))
    (fun os started H enc _ F => lifted walk os started H enc F)
theorem walk : Walk := by
  intro w A1 c1 l1 hC hc hG hZ
  have h1 : 6 * l1.length ≤ In.zsum opZ l1 := zsum_many
  unfold opsZ at hZ
  refine Sep.plays_any l1 A1 c1 w hC hc (by omega) fun x hx => ⟨?_, ?_⟩
  · have h2 := In.zsum_mem (Z := opZ) hx
    unfold opZ at h2
    rw [zsum_ones] at h2
    unfold opZ at hZ
    omega
  · have h2 := (hG.2 x hx).2.2.2.1
    have e2 : IntKind.i64.max = 9223372036854775807 := by decide
    simp [Lit.wf, e2] at h2
    omega
theorem proved : Rows.DevicePlaysUptoSaid := over walk
#print axioms proved
end Go.Proofs.Ythnbmfkmaijibaa.devicePlays
namespace Go.Proofs.Ythnbmfkmaijibaa
theorem devicePlaysUpto_holds : Rows.DevicePlaysUptoSaid := devicePlays.proved
end Go.Proofs.Ythnbmfkmaijibaa
