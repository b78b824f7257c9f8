/- For every number, list of bytes, place and four bytes whose readings are together of bulk at most 1048576: SumNear answers true and leaves the list as it was. -/
import Derived.Test.YtmddjfplkifdmaaRows
import Derived.Test.YtmddjfplkifdmaaInOpen4
import Derived.WalkKit
import Derived.ProofKit
import Derived.OpenShut
import Derived.ShutString
import Derived.ChangeOld
import Derived.Below
import Derived.SizedLaws
import Derived.Deep.CondSized
import Derived.Test.YtmddjfplkifdmaaNearWalk
namespace Go.Proofs.Ytmddjfplkifdmaa.sumNear
open Go.ChangeShapes Go.WideShapes Go.ChangeAt Go.RowKit Go.Proofs.YtmddjfplkifdmaaW.PrintWords
set_option linter.unusedVariables false
set_option linter.unusedSimpArgs false
theorem own : ownKnob Try.prog.godebug = none := by kernel_rfl
theorem laidOut : laidOutB Try.prog = true := by kernel_rfl
def bytesZ (l : List Int) : Nat := 1 + In.zsum (fun _ => 1) l
def bytesG (l : List Int) : Prop := l.length * 1 ≤ 140737488351232 ∧ ∀ x ∈ l, (Lit.int .u8 x).wf = true
theorem bytes : In.Opens Try.prog 22 (Kd.slice 5 (Kd.int .u8)) bytesZ bytesG := In.opens_slice Try.underlying22 (by kernel_rfl) (by kernel_rfl) (In.opens_int Try.underlying5 (by kernel_rfl))
/-- What is owed: the law's Go function, called with what reads so, answers true and leaves all as it was. -/
def Walk : Prop := ∀ (w : World) (a0 : Int) (_ : (Lit.int .u64 a0).wf = true) (A1 : Option Addr) (c1 : Nat) (l1 : List Int) (_ : Kd.C (Kd.int .u8) w A1 l1.length l1) (_ : l1.length ≤ c1) (_ : bytesG l1) (_ : bytesZ l1 ≤ 1048576) (a2 : Int) (_ : (Lit.int .i64 a2).wf = true) (x3 y3 z3 u3 : Int) (_ : (Lit.int .u8 x3).wf = true) (_ : (Lit.int .u8 y3).wf = true) (_ : (Lit.int .u8 z3).wf = true) (_ : (Lit.int .u8 u3).wf = true), Calls Try.prog 9 #[.int .u64 a0, .slice A1 l1.length c1, .int .i64 a2, .agg #[.int .u8 x3, .int .u8 y3, .int .u8 z3, .int .u8 u3]] w fun e w' => e = .returned (.bool true) ∧ Below w.heap.size w w'
set_option maxRecDepth 100000 in
theorem lifted (walk : Walk) (os : Os) (started : os.Started) (H : Type) (enc : TypeId × Value → H) (F : Stop.Interp) :
    ReturnsInHanded {} Try.checked os 9 .any ((Rows.OpenSpec.upto Rows.sumNearSpec).pre6 enc Try.prog Try.f9 Rows.sumNearUptoRow.domain false) (((Rows.OpenSpec.upto Rows.sumNearSpec).at F).post enc Try.prog Try.f9 false true false false) := by
  refine returnsInHanded_of_cond_sized (C := Try.checked) (s := Rows.OpenSpec.upto Rows.sumNearSpec) (k := Rows.uptoSmall) rfl own started (by kernel_rfl) Try.func9
    (OpenSpec.witness (enc := enc) (C := Try.checked) (s := Rows.OpenSpec.upto Rows.sumNearSpec) (k := Rows.uptoSmall) rfl false ⟨#[], #[.int .u64 0, .slice none 0 0, .int .i64 0, .agg #[.int .u8 0, .int .u8 0, .int .u8 0, .int .u8 0]], []⟩ 8 (by kernel_rfl) (by kernel_rfl) (by kernel_rfl)
      (x := ([.lit (.int .u64 0), .nil, .lit (.int .i64 0), .agg [.lit (.int .u8 0), .lit (.int .u8 0), .lit (.int .u8 0), .lit (.int .u8 0)]], [], [])) (by kernel_rfl) rfl (by kernel_rfl)) ?_
  intro W base args ds gs before hval0 hW hcnd hk hsz0 _
  have hsz : (DataW.weightsEach Try.prog (Try.f9.params.toList ++ Rows.sumNearSpec.plain.varTypes Try.prog) (ds ++ gs)).all (· ≤ reachBytes) = true := hsz0
  have hval : ∀ (j : Nat) t v, Try.f9.params[j]? = some t → args[j]? = some v → Value.okWide Try.prog W .any base t v := hval0
  have hW' := hW
  obtain ⟨p, q, hA0, hV, rfl, hfz, hnd⟩ := hW
  have hA : DataW.TrodAll enc Try.prog W 0 (fun _ => true) true Try.f9.params.toList args.toList ds p := hA0
  rw [Try.params9] at hA hval hsz
  obtain ⟨v0, vs0, d0, ds0, p0, q0, hargs, rfl, rfl, h0, r0⟩ := trodAll_cons hA
  obtain ⟨v1, vs1, d1, ds1, p1, q1, rfl, rfl, rfl, h1, r1⟩ := trodAll_cons r0
  obtain ⟨v2, vs2, d2, ds2, p2, q2, rfl, rfl, rfl, h2, r2⟩ := trodAll_cons r1
  obtain ⟨v3, vs3, d3, ds3, p3, q3, rfl, rfl, rfl, h3, r3⟩ := trodAll_cons r2
  obtain ⟨rfl, rfl, rfl⟩ := trodAll_nil r3
  obtain rfl : args = #[v0, v1, v2, v3] := by cases args; simp_all
  obtain ⟨rfl, rfl⟩ := trodVars_none hV
  obtain ⟨a0, rfl, rfl, rfl, w0⟩ := open_int Try.underlying25 (hval 0 25 v0 rfl rfl) h0
  obtain ⟨A1, n1, c1, rfl⟩ := okWide_slice Try.underlying22 (hval 1 22 v1 rfl rfl)
  have k1 := h1
  have lt1 : ∀ x ∈ p1, x.block < W.heap.size := by obtain ⟨m, hm⟩ := k1; exact DataW.trod_lt m _ _ _ hm
  obtain ⟨l1, rfl, hc1, hC1, hZ1, hG1⟩ := In.slice_arg bytes h1 (In.reach_each hsz (j := 1) rfl rfl)
  obtain ⟨a2, rfl, rfl, rfl, w2⟩ := open_int Try.underlying3 (hval 2 3 v2 rfl rfl) h2
  have k3 := h3
  have lt3 : ∀ x ∈ p3, x.block < W.heap.size := by obtain ⟨m, hm⟩ := k3; exact DataW.trod_lt m _ _ _ hm
  obtain ⟨x3, y3, z3, u3, rfl, wx3, wy3, wz3, wu3⟩ := In.arr4_arg Try.underlying34 Try.underlying5 (by kernel_rfl) (by kernel_rfl) (hval 3 34 v3 rfl rfl) h3
  clear hA0 hval0 hsz0
  refine (walk W a0 w0 A1 c1 l1 hC1 hc1 hG1 (Nat.le_trans hZ1 (In.small hk (by simp))) a2 w2 x3 y3 z3 u3 wx3 wy3 wz3 wu3).mono fun e W' ⟨he, bel⟩ => ?_
  subst he
  exact ⟨_, rfl, _, _, _, [], _, [], hW', trodAll_mk1 (shut_bool Try.underlying4 _), (trodAll_cons_mk (shut_int Try.underlying25 w0) (trodAll_cons_mk (Below.trod laidOut (by kernel_rfl) (of_decide_eq_true (by kernel_rfl)) k1 bel lt1) (trodAll_cons_mk (shut_int Try.underlying3 w2) (trodAll_cons_mk (Below.trod laidOut (by kernel_rfl) (of_decide_eq_true (by kernel_rfl)) k3 bel lt3) (trodAll_mk0))))), rfl, bel.frame _, fun h => by cases h⟩
theorem over (walk : Walk) : Rows.SumNearUptoSaid :=
  OpenClaim.holds_of_cond 9 Try.f9 rfl rfl rfl rfl rfl rfl rfl ⟨rfl, rfl, rfl, rfl, rfl⟩ rfl rfl rfl rfl rfl (by kernel_rfl) Try.func9 (by kernel_rfl)
    (of_decide_eq_true (by kernel_rfl)) (by unfold Func.isWrapper; first | (rw [if_pos (by decide +kernel)]; kernel_rfl) | (rw [if_neg (by decide +kernel)]; exact ⟨rfl, rfl⟩))
    (fun os started H enc _ F => lifted walk os started H enc F)
theorem walk : Walk := by
  intro w h hh A1 c1 l1 hC hc hG hZ a2 h2 x y z u hx hy hz hu
  have hn : l1.length ≤ 1048576 := by have := In.zsum_len (Z := fun _ : Int => 1) (l := l1) (fun _ _ => Nat.le_refl _); unfold bytesZ at hZ; omega
  refine Near.near_any h l1 A1 c1 a2 x y z u w hC hc hn h2 (SumPlain.wf_range hh) (fun b hb => SumPlain.wf8_range (hG.2 b hb)) ?_
  intro j
  match j with
  | 0 => exact SumPlain.wf8_range hx
  | 1 => exact SumPlain.wf8_range hy
  | 2 => exact SumPlain.wf8_range hz
  | 3 => exact SumPlain.wf8_range hu
  | _ + 4 => exact ⟨Int.le_refl 0, (by decide : (0 : Int) < 256)⟩
theorem proved : Rows.SumNearUptoSaid := over walk
#print axioms proved
end Go.Proofs.Ytmddjfplkifdmaa.sumNear
namespace Go.Proofs.Ytmddjfplkifdmaa
theorem sumNearUpto_holds : Rows.SumNearUptoSaid := sumNear.proved
end Go.Proofs.Ytmddjfplkifdmaa
