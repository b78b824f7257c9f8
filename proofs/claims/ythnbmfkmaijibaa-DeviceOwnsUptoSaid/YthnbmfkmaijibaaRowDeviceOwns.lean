/- For every number, every row of writes of bulk at most 1048576, every number: DeviceOwns answers true and leaves all as it was. -/
import Derived.Test.YthnbmfkmaijibaaRows
import Derived.Test.YthnbmfkmaijibaaInOpen
import Derived.WalkKit
import Derived.ProofKit
import Derived.OpenShut
import Derived.ShutString
import Derived.ChangeOld
import Derived.Below
import Derived.SizedLaws
import Derived.Deep.CondSized
import Derived.Test.YthnbmfkmaijibaaOwnsWalk
namespace Go.Proofs.Ythnbmfkmaijibaa.deviceOwns
open Go.ChangeShapes Go.WideShapes Go.ChangeAt Go.RowKit Go.Proofs.YthnbmfkmaijibaaW.PrintWords
set_option linter.unusedVariables false
set_option linter.unusedSimpArgs false
theorem own : ownKnob Try.prog.godebug = none := by kernel_rfl
theorem laidOut : laidOutB Try.prog = true := by kernel_rfl
set_option maxRecDepth 100000 in
theorem wr : In.Opens Try.prog 34 (Kd.pair (Kd.int .i64) (Kd.pair (Kd.int .u8) Kd.bool)) (fun v => 1 + (1 + 1)) (fun v => (Lit.int .i64 v.1).wf = true ∧ (Lit.int .u8 v.2.1).wf = true ∧ True) :=
  In.opens_struct Try.underlying34 (by kernel_rfl) (In.fields_cons rfl rfl (In.opens_int Try.underlying3 (by kernel_rfl)) rfl (In.fields_cons rfl rfl (In.opens_int Try.underlying5 (by kernel_rfl)) rfl (In.fields_one rfl rfl (In.opens_bool Try.underlying4 (by kernel_rfl)))))
def wsZ (l : List (Int × Int × Bool)) : Nat := 1 + In.zsum (fun _ => 1 + (1 + 1)) l
def wsG (l : List (Int × Int × Bool)) : Prop := l.length * 16 ≤ 140737488351232 ∧ ∀ x ∈ l, (Lit.int .i64 x.1).wf = true ∧ (Lit.int .u8 x.2.1).wf = true ∧ True
theorem ws : In.Opens Try.prog 22 (Kd.slice 34 (Kd.pair (Kd.int .i64) (Kd.pair (Kd.int .u8) Kd.bool))) wsZ wsG := In.opens_slice Try.underlying22 (by kernel_rfl) (by kernel_rfl) wr
/-- What is owed: the law's Go function, called with what reads so, answers true and leaves all as it was. -/
def Walk : Prop := ∀ (w : World) (a0 : Int) (_ : (Lit.int .i64 a0).wf = true) (A1 : Option Addr) (c1 : Nat) (l1 : List (Int × Int × Bool)) (_ : Kd.C (Kd.pair (Kd.int .i64) (Kd.pair (Kd.int .u8) Kd.bool)) w A1 l1.length l1) (_ : l1.length ≤ c1) (_ : wsG l1) (_ : wsZ l1 ≤ 1048576) (a2 : Int) (_ : (Lit.int .i64 a2).wf = true), Calls Try.prog 5 #[.int .i64 a0, .slice A1 l1.length c1, .int .i64 a2] w fun e w' => e = .returned (.bool true) ∧ Below w.heap.size w w'
set_option maxRecDepth 100000 in
theorem lifted (walk : Walk) (os : Os) (started : os.Started) (H : Type) (enc : TypeId × Value → H) (F : Stop.Interp) :
    ReturnsInHanded {} Try.checked os 5 .any ((Rows.OpenSpec.upto Rows.deviceOwnsSpec).pre6 enc Try.prog Try.f5 Rows.deviceOwnsUptoRow.domain false) (((Rows.OpenSpec.upto Rows.deviceOwnsSpec).at F).post enc Try.prog Try.f5 false true false false) := by
  refine returnsInHanded_of_cond_sized (C := Try.checked) (s := Rows.OpenSpec.upto Rows.deviceOwnsSpec) (k := Rows.uptoSmall) rfl own started (by kernel_rfl) Try.func5
    (OpenSpec.witness (enc := enc) (C := Try.checked) (s := Rows.OpenSpec.upto Rows.deviceOwnsSpec) (k := Rows.uptoSmall) rfl false ⟨#[], #[.int .i64 0, .slice none 0 0, .int .i64 0], []⟩ 8 (by kernel_rfl) (by kernel_rfl) (by kernel_rfl)
      (x := ([.lit (.int .i64 0), .nil, .lit (.int .i64 0)], [], [])) (by kernel_rfl) rfl (by kernel_rfl)) ?_
  intro W base args ds gs before hval0 hW hcnd hk hsz0 _
  have hsz : (DataW.weightsEach Try.prog (Try.f5.params.toList ++ Rows.deviceOwnsSpec.plain.varTypes Try.prog) (ds ++ gs)).all (· ≤ reachBytes) = true := hsz0
  have hval : ∀ (j : Nat) t v, Try.f5.params[j]? = some t → args[j]? = some v → Value.okWide Try.prog W .any base t v := hval0
  have hW' := hW
  obtain ⟨p, q, hA0, hV, rfl, hfz, hnd⟩ := hW
  have hA : DataW.TrodAll enc Try.prog W 0 (fun _ => true) true Try.f5.params.toList args.toList ds p := hA0
  rw [Try.params5] at hA hval hsz
  obtain ⟨v0, vs0, d0, ds0, p0, q0, hargs, rfl, rfl, h0, r0⟩ := trodAll_cons hA
  obtain ⟨v1, vs1, d1, ds1, p1, q1, rfl, rfl, rfl, h1, r1⟩ := trodAll_cons r0
  obtain ⟨v2, vs2, d2, ds2, p2, q2, rfl, rfl, rfl, h2, r2⟩ := trodAll_cons r1
  obtain ⟨rfl, rfl, rfl⟩ := trodAll_nil r2
  obtain rfl : args = #[v0, v1, v2] := by cases args; simp_all
  obtain ⟨rfl, rfl⟩ := trodVars_none hV
  obtain ⟨a0, rfl, rfl, rfl, w0⟩ := open_int Try.underlying3 (hval 0 3 v0 rfl rfl) h0
  obtain ⟨A1, n1, c1, rfl⟩ := okWide_slice Try.underlying22 (hval 1 22 v1 rfl rfl)
  have k1 := h1
  have lt1 : ∀ x ∈ p1, x.block < W.heap.size := by obtain ⟨m, hm⟩ := k1; exact DataW.trod_lt m _ _ _ hm
  obtain ⟨l1, rfl, hc1, hC1, hZ1, hG1⟩ := In.slice_arg ws h1 (In.reach_each hsz (j := 1) rfl rfl)
  obtain ⟨a2, rfl, rfl, rfl, w2⟩ := open_int Try.underlying3 (hval 2 3 v2 rfl rfl) h2
  clear hA0 hval0 hsz0
  refine (walk W a0 w0 A1 c1 l1 hC1 hc1 hG1 (Nat.le_trans hZ1 (In.small hk (by simp))) a2 w2).mono fun e W' ⟨he, bel⟩ => ?_
  subst he
  exact ⟨_, rfl, _, _, _, [], _, [], hW', trodAll_mk1 (shut_bool Try.underlying4 _), (trodAll_cons_mk (shut_int Try.underlying3 w0) (trodAll_cons_mk (Below.trod laidOut (by kernel_rfl) (of_decide_eq_true (by kernel_rfl)) k1 bel lt1) (trodAll_cons_mk (shut_int Try.underlying3 w2) (trodAll_mk0)))), rfl, bel.frame _, fun h => by cases h⟩
theorem over (walk : Walk) : Rows.DeviceOwnsUptoSaid :=
  OpenClaim.holds_of_cond 5 Try.f5 rfl rfl rfl rfl rfl rfl rfl ⟨rfl, rfl, rfl, rfl, rfl⟩ rfl rfl rfl rfl rfl (by kernel_rfl) Try.func5 (by kernel_rfl)
    (of_decide_eq_true (by kernel_rfl)) (by unfold Func.isWrapper; first | (rw [if_pos (by decide +kernel)]; kernel_rfl) | (rw [if_neg (by decide +kernel)]; exact ⟨rfl, rfl⟩))
    (fun os started H enc _ F => lifted walk os started H enc F)
theorem walk : Walk := by
  intro w a0 h0 A1 c1 l1 hC hc hG hZ a2 h2
  refine Help.owns_any a0 a2 l1 A1 c1 w hC hc ?_
  have h3 : l1.length ≤ wsZ l1 := by
    unfold wsZ
    have := In.zsum_len (Z := fun (_ : Int × Int × Bool) => 1 + (1 + 1)) (l := l1) (fun _ _ => by omega)
    omega
  omega
theorem proved : Rows.DeviceOwnsUptoSaid := over walk
#print axioms proved
end Go.Proofs.Ythnbmfkmaijibaa.deviceOwns
namespace Go.Proofs.Ythnbmfkmaijibaa
theorem deviceOwnsUpto_holds : Rows.DeviceOwnsUptoSaid := deviceOwns.proved
end Go.Proofs.Ythnbmfkmaijibaa
