/- For every input: how many operations of the device a Commit takes: JournalSteps answers true and leaves all as it was; conditions: the two listed package variables are as the program's text lays them. -/
import Derived.Test.YtmafafingdpopaaGreatDoorCards
import Derived.Test.YtmafafingdpopaaGreatDoorTie
import Derived.Test.YtmafafingdpopaaGreatDoorMLaid
import Derived.Test.YtmafafingdpopaaGreatDoorLawOpens
import Derived.Test.YtmafafingdpopaaGreatDoorMS1
import Derived.WalkKit
import Derived.ProofKit
import Derived.OpenShut
import Derived.ShutString
import Derived.ChangeOld
import Derived.Below
import Derived.SizedLaws
import Derived.Deep.CondSized
import Derived.Deep.DeepHandedRow
import Derived.Deep.DeepWitnessRowRef
import Derived.SevenTiedAt
namespace Go.Proofs.YtmafafingdpopaaGreatDoor.journalSteps
open Go Go.ChangeShapes Go.WideShapes Go.ChangeAt Go.RowKit Go.Proofs.YtmafafingdpopaaGreatDoorW.PrintWords Go.Proofs.YtmafafingdpopaaGreatDoor.LawOpens
set_option linter.unusedVariables false
set_option linter.unusedSimpArgs false
theorem laidOut : laidOutB Tryz.prog = true := by kernel_rfl
/-- What is owed: the law's Go function, called with what reads so, answers true and leaves all as it was. -/
def Walk : Prop := ∀ (w : World) (sa : Addr) (_ : Errs.Rt w) (_ : Errs.Sen sa w) (a0 : Int) (_ : (Lit.int .i64 a0).wf = true) (a1 : Int) (_ : (Lit.int .i64 a1).wf = true) (a2 : Int) (_ : (Lit.int .i64 a2).wf = true) (A3 : Option Addr) (c3 : Nat) (l3 : List (List (Int × List Int))) (_ : Kd.C (Kd.slice 41 (Kd.pair (Kd.int .i64) (Kd.slice 5 (Kd.int .u8)))) w A3 l3.length l3) (_ : l3.length ≤ c3) (_ : txsG l3) (A4 : Option Addr) (c4 : Nat) (l4 : List (Int × List Int)) (_ : Kd.C (Kd.pair (Kd.int .i64) (Kd.slice 5 (Kd.int .u8))) w A4 l4.length l4) (_ : l4.length ≤ c4) (_ : putsG l4), Calls Tryz.prog 7 #[.int .i64 a0, .int .i64 a1, .int .i64 a2, .slice A3 l3.length c3, .slice A4 l4.length c4] w fun e w' => e = .returned (.bool true) ∧ Below w.heap.size w w'
theorem reads (os : Os) {H : Type} (enc : TypeId × Value → H) : ∃ places, DataW.whole enc Tryz.prog ((Laid.laidWorld os).forCall (fun _ _ => 0) ⟨#[], #[.int .i64 0, .int .i64 0, .int .i64 0, .slice none 0 0, .slice none 0 0], []⟩).memory Tryz.f7.params.toList Rows.journalStepsSpec.vars false #[Value.int .i64 0, .int .i64 0, .int .i64 0, .slice none 0 0, .slice none 0 0].toList 8 = some ([.lit (.int .i64 0), .lit (.int .i64 0), .lit (.int .i64 0), .nil, .nil], [], places) :=
  ⟨[], by kernel_rfl⟩
set_option maxRecDepth 100000 in
theorem lifted (walk : Walk) (os : Os) (started : os.Started) (H : Type) (enc : TypeId × Value → H) (F : Stop.Interp) :
    ReturnsInHanded {} Tryz.checked os 7 .any ((OpenSpec.ofChange Rows.journalStepsSpec).preRow enc Tryz.prog Tryz.f7 Rows.journalStepsRow.domain false Rows.journalStepsRow.laid) (((OpenSpec.ofChange Rows.journalStepsSpec).at F).post enc Tryz.prog Tryz.f7 false true false false) := by
  obtain ⟨places, hx⟩ := reads os enc
  refine returnsInHanded_of_row (C := Tryz.checked) (s := OpenSpec.ofChange Rows.journalStepsSpec) Laid.own started (by kernel_rfl) Tryz.func7
    (witness_row_atRef (enc := enc) (C := Tryz.checked) false (Laid.laidWorld os) #[.int .i64 0, .int .i64 0, .int .i64 0, .slice none 0 0, .slice none 0 0] rfl (by kernel_rfl) (by kernel_rfl) (by kernel_rfl)
      (OpenSpec.preRow_of_cond 8 hx (by kernel_rfl) (fun k hk => by cases hk) (by kernel_rfl) (Laid.laid_met os _))) ?_
  intro W base args ds gs before hval0 hW hcnd hk hsz0 hL _ _
  have hsz : (DataW.weightsEach Tryz.prog (Tryz.f7.params.toList ++ Rows.journalStepsSpec.plain.varTypes Tryz.prog) (ds ++ gs)).all (· ≤ reachBytes) = true := hsz0
  have hval : ∀ (j : Nat) t v, Tryz.f7.params[j]? = some t → args[j]? = some v → Value.okWide Tryz.prog W .any base t v := hval0
  obtain ⟨hrt, sa, hsn⟩ := Laid.of_laid hL
  have hW' := hW
  obtain ⟨p, q, hA0, hV, rfl, hfz, hnd⟩ := hW
  have hA : DataW.TrodAll enc Tryz.prog W 0 (fun _ => true) true Tryz.f7.params.toList args.toList ds p := hA0
  rw [Tryz.params7] at hA hval hsz
  obtain ⟨v0, vs0, d0, ds0, p0, q0, hargs, rfl, rfl, h0, r0⟩ := trodAll_cons hA
  obtain ⟨v1, vs1, d1, ds1, p1, q1, rfl, rfl, rfl, h1, r1⟩ := trodAll_cons r0
  obtain ⟨v2, vs2, d2, ds2, p2, q2, rfl, rfl, rfl, h2, r2⟩ := trodAll_cons r1
  obtain ⟨v3, vs3, d3, ds3, p3, q3, rfl, rfl, rfl, h3, r3⟩ := trodAll_cons r2
  obtain ⟨v4, vs4, d4, ds4, p4, q4, rfl, rfl, rfl, h4, r4⟩ := trodAll_cons r3
  obtain ⟨rfl, rfl, rfl⟩ := trodAll_nil r4
  obtain rfl : args = #[v0, v1, v2, v3, v4] := by cases args; simp_all
  obtain ⟨rfl, rfl⟩ := trodVars_none hV
  obtain ⟨a0, rfl, rfl, rfl, w0⟩ := open_int Tryz.underlying3 (hval 0 3 v0 rfl rfl) h0
  obtain ⟨a1, rfl, rfl, rfl, w1⟩ := open_int Tryz.underlying3 (hval 1 3 v1 rfl rfl) h1
  obtain ⟨a2, rfl, rfl, rfl, w2⟩ := open_int Tryz.underlying3 (hval 2 3 v2 rfl rfl) h2
  obtain ⟨A3, n3, c3, rfl⟩ := okWide_slice Tryz.underlying62 (hval 3 62 v3 rfl rfl)
  have k3 := h3
  have lt3 : ∀ x ∈ p3, x.block < W.heap.size := by obtain ⟨m, hm⟩ := k3; exact DataW.trod_lt m _ _ _ hm
  obtain ⟨l3, rfl, hc3, hC3, hZ3, hG3⟩ := In.slice_arg txs h3 (In.reach_each hsz (j := 3) rfl rfl)
  obtain ⟨A4, n4, c4, rfl⟩ := okWide_slice Tryz.underlying22 (hval 4 22 v4 rfl rfl)
  have k4 := h4
  have lt4 : ∀ x ∈ p4, x.block < W.heap.size := by obtain ⟨m, hm⟩ := k4; exact DataW.trod_lt m _ _ _ hm
  obtain ⟨l4, rfl, hc4, hC4, hZ4, hG4⟩ := In.slice_arg puts h4 (In.reach_each hsz (j := 4) rfl rfl)
  clear hA0 hval0 hsz0
  refine (walk W sa hrt hsn a0 w0 a1 w1 a2 w2 A3 c3 l3 hC3 hc3 hG3 A4 c4 l4 hC4 hc4 hG4).mono fun e W' ⟨he, bel⟩ => ?_
  subst he
  exact ⟨_, rfl, _, _, _, [], _, [], hW', trodAll_mk1 (shut_bool Tryz.underlying4 _), (trodAll_cons_mk (shut_int Tryz.underlying3 w0) (trodAll_cons_mk (shut_int Tryz.underlying3 w1) (trodAll_cons_mk (shut_int Tryz.underlying3 w2) (trodAll_cons_mk (Below.trod laidOut (by kernel_rfl) (of_decide_eq_true (by kernel_rfl)) k3 bel lt3) (trodAll_cons_mk (Below.trod laidOut (by kernel_rfl) (of_decide_eq_true (by kernel_rfl)) k4 bel lt4) (trodAll_mk0)))))), rfl, bel.frame _, fun h => by cases h⟩
theorem over (walk : Walk) : Rows.JournalStepsSaid :=
  OpenClaim.holds_of_cond 7 Tryz.f7 rfl rfl rfl rfl rfl rfl rfl ⟨rfl, rfl, rfl, rfl, rfl⟩ rfl rfl rfl rfl rfl (by kernel_rfl) Tryz.func7 (by kernel_rfl)
    (of_decide_eq_true (by kernel_rfl)) (by unfold Func.isWrapper; first | (rw [if_pos (by decide +kernel)]; kernel_rfl) | (rw [if_neg (by decide +kernel)]; exact ⟨rfl, rfl⟩))
    (fun os started H enc _ F => by rw [OpenClaim.pre_eq_preRow]; exact lifted walk os started H enc F)
theorem plain (f : FuncId) (fn : Func) (hf : Tryz.pinned.checked.prog.funcNamed "annex/annexlaw7.JournalSteps" = some f) (hfn : Tryz.pinned.checked.prog.funcs[f]? = some fn) :
    true = Tryz.pinned.checked.prog.looks [] ∧ ∀ (j : Nat) t, fn.params[j]? = some t → Tryz.pinned.checked.prog.wantsStandIn t = false := by
  obtain rfl : f = 7 := Option.some.inj ((show Tryz.prog.funcNamed "annex/annexlaw7.JournalSteps" = some 7 by kernel_rfl).symm.trans hf) |>.symm
  obtain rfl : fn = Tryz.f7 := (Option.some.inj (Tryz.func7.symm.trans hfn)).symm
  refine ⟨by kernel_rfl, fun j t ht => ?_⟩
  rw [Tryz.params7] at ht
  have hm := Array.mem_of_getElem? ht
  have ht2 : t = 3 ∨ t = 62 ∨ t = 22 := by simpa using hm
  rcases ht2 with rfl | rfl | rfl
  · exact (show Tryz.prog.wantsStandIn 3 = false by kernel_rfl)
  · exact (show Tryz.prog.wantsStandIn 62 = false by kernel_rfl)
  · exact (show Tryz.prog.wantsStandIn 22 = false by kernel_rfl)
theorem put_ok {x : Int × List Int} (h : putG x) : Go.Proofs.YtmafafingdpopaaGreatDoor.Jr.Byte x.2 ∧ x.2.length ≤ 140737488351232 ∧ -9223372036854775808 ≤ x.1 ∧ x.1 < 9223372036854775808 := by
  obtain ⟨h1, h2, h3⟩ := h
  refine ⟨fun y hy => ?_, by omega, ?_⟩
  · have h4 := h3 y hy
    have e1 : IntKind.u8.min = 0 := by decide
    have e2 : IntKind.u8.max = 255 := by decide
    simp [Lit.wf, e1, e2] at h4
    omega
  · have e1 : IntKind.i64.min = -9223372036854775808 := by decide
    have e2 : IntKind.i64.max = 9223372036854775807 := by decide
    simp [Lit.wf, e1, e2] at h1
    omega
theorem fall_ok {x : Int × List Bool} (h : fallG x) : x.1 < 9223372036854775808 := by
  obtain ⟨h1, _⟩ := h
  have e1 : IntKind.i64.min = -9223372036854775808 := by decide
  have e2 : IntKind.i64.max = 9223372036854775807 := by decide
  simp [Lit.wf, e1, e2] at h1
  omega

theorem walk : Walk := by
  intro w sa hrt hsn a0 _ a1 _ a2 _ A3 c3 l3 hC3 hc3 hG3 A4 c4 l4 hC4 hc4 hG4
  exact Sep.steps_s hrt hsn a0 a1 a2 ⟨hC3, fun l hl x hx => put_ok ((hG3.2 l hl).2 x hx)⟩ ⟨hC4, fun x hx => put_ok (hG4.2 x hx)⟩
theorem proved : Rows.JournalStepsCardSaid :=
  Claim7.holds_tied_plain_at .later [] _ _ _ _ (over walk) (fun _ h => by cases h) (by kernel_rfl) (fun _ h => by cases h) journalSteps_row_tie rfl ⟨rfl, rfl⟩ (by kernel_rfl) rfl plain (by kernel_rfl)
#print axioms proved
end Go.Proofs.YtmafafingdpopaaGreatDoor.journalSteps
namespace Go.Proofs.YtmafafingdpopaaGreatDoor
theorem journalSteps_holds : Rows.JournalStepsCardSaid := journalSteps.proved
end Go.Proofs.YtmafafingdpopaaGreatDoor
