/- For every input: the power failing at each of the first sixty operations of a transaction behind others, nothing, all or a pattern surviving: JournalEvery answers true and leaves all as it was; conditions: the two listed package variables are as the program's text lays them. -/
import Derived.Test.YtmafafingdpopaaGreatDoorCards
import Derived.Test.YtmafafingdpopaaGreatDoorTie
import Derived.Test.YtmafafingdpopaaGreatDoorMLaid
import Derived.Test.YtmafafingdpopaaGreatDoorLawOpens
import Derived.Test.YtmafafingdpopaaGreatDoorMA16
import Derived.WalkKit
import Derived.ProofKit
import Derived.OpenShut
import Derived.ShutString
import Derived.ChangeOld
import Derived.Below
import Derived.SizedLaws
import Derived.Deep.CondSized
import Derived.Deep.DeepHandedRow
import Derived.Deep.DeepWitnessRowRef
import Derived.SevenTiedAt
namespace Go.Proofs.YtmafafingdpopaaGreatDoor.journalEvery
open Go Go.ChangeShapes Go.WideShapes Go.ChangeAt Go.RowKit Go.Proofs.YtmafafingdpopaaGreatDoorW.PrintWords Go.Proofs.YtmafafingdpopaaGreatDoor.LawOpens
set_option linter.unusedVariables false
set_option linter.unusedSimpArgs false
theorem laidOut : laidOutB Tryz.prog = true := by kernel_rfl
/-- What is owed: the law's Go function, called with what reads so, answers true and leaves all as it was. -/
def Walk : Prop := ∀ (w : World) (sa : Addr) (_ : Errs.Rt w) (_ : Errs.Sen sa w) (A0 : Option Addr) (c0 : Nat) (l0 : List (List (Int × List Int))) (_ : Kd.C (Kd.slice 41 (Kd.pair (Kd.int .i64) (Kd.slice 5 (Kd.int .u8)))) w A0 l0.length l0) (_ : l0.length ≤ c0) (_ : txsG l0) (A1 : Option Addr) (c1 : Nat) (l1 : List (Int × List Int)) (_ : Kd.C (Kd.pair (Kd.int .i64) (Kd.slice 5 (Kd.int .u8))) w A1 l1.length l1) (_ : l1.length ≤ c1) (_ : putsG l1) (A2 : Option Addr) (c2 : Nat) (l2 : List Bool) (_ : Kd.C Kd.bool w A2 l2.length l2) (_ : l2.length ≤ c2) (_ : boolsG l2), Calls Tryz.prog 5 #[.slice A0 l0.length c0, .slice A1 l1.length c1, .slice A2 l2.length c2] w fun e w' => e = .returned (.bool true) ∧ Below w.heap.size w w'
theorem reads (os : Os) {H : Type} (enc : TypeId × Value → H) : ∃ places, DataW.whole enc Tryz.prog ((Laid.laidWorld os).forCall (fun _ _ => 0) ⟨#[], #[.slice none 0 0, .slice none 0 0, .slice none 0 0], []⟩).memory Tryz.f5.params.toList Rows.journalEverySpec.vars false #[Value.slice none 0 0, .slice none 0 0, .slice none 0 0].toList 8 = some ([.nil, .nil, .nil], [], places) :=
  ⟨[], by kernel_rfl⟩
set_option maxRecDepth 100000 in
theorem lifted (walk : Walk) (os : Os) (started : os.Started) (H : Type) (enc : TypeId × Value → H) (F : Stop.Interp) :
    ReturnsInHanded {} Tryz.checked os 5 .any ((OpenSpec.ofChange Rows.journalEverySpec).preRow enc Tryz.prog Tryz.f5 Rows.journalEveryRow.domain false Rows.journalEveryRow.laid) (((OpenSpec.ofChange Rows.journalEverySpec).at F).post enc Tryz.prog Tryz.f5 false true false false) := by
  obtain ⟨places, hx⟩ := reads os enc
  refine returnsInHanded_of_row (C := Tryz.checked) (s := OpenSpec.ofChange Rows.journalEverySpec) Laid.own started (by kernel_rfl) Tryz.func5
    (witness_row_atRef (enc := enc) (C := Tryz.checked) false (Laid.laidWorld os) #[.slice none 0 0, .slice none 0 0, .slice none 0 0] rfl (by kernel_rfl) (by kernel_rfl) (by kernel_rfl)
      (OpenSpec.preRow_of_cond 8 hx (by kernel_rfl) (fun k hk => by cases hk) (by kernel_rfl) (Laid.laid_met os _))) ?_
  intro W base args ds gs before hval0 hW hcnd hk hsz0 hL _ _
  have hsz : (DataW.weightsEach Tryz.prog (Tryz.f5.params.toList ++ Rows.journalEverySpec.plain.varTypes Tryz.prog) (ds ++ gs)).all (· ≤ reachBytes) = true := hsz0
  have hval : ∀ (j : Nat) t v, Tryz.f5.params[j]? = some t → args[j]? = some v → Value.okWide Tryz.prog W .any base t v := hval0
  obtain ⟨hrt, sa, hsn⟩ := Laid.of_laid hL
  have hW' := hW
  obtain ⟨p, q, hA0, hV, rfl, hfz, hnd⟩ := hW
  have hA : DataW.TrodAll enc Tryz.prog W 0 (fun _ => true) true Tryz.f5.params.toList args.toList ds p := hA0
  rw [Tryz.params5] at hA hval hsz
  obtain ⟨v0, vs0, d0, ds0, p0, q0, hargs, rfl, rfl, h0, r0⟩ := trodAll_cons hA
  obtain ⟨v1, vs1, d1, ds1, p1, q1, rfl, rfl, rfl, h1, r1⟩ := trodAll_cons r0
  obtain ⟨v2, vs2, d2, ds2, p2, q2, rfl, rfl, rfl, h2, r2⟩ := trodAll_cons r1
  obtain ⟨rfl, rfl, rfl⟩ := trodAll_nil r2
  obtain rfl : args = #[v0, v1, v2] := by cases args; simp_all
  obtain ⟨rfl, rfl⟩ := trodVars_none hV
  obtain ⟨A0, n0, c0, rfl⟩ := okWide_slice Tryz.underlying62 (hval 0 62 v0 rfl rfl)
  have k0 := h0
  have lt0 : ∀ x ∈ p0, x.block < W.heap.size := by obtain ⟨m, hm⟩ := k0; exact DataW.trod_lt m _ _ _ hm
  obtain ⟨l0, rfl, hc0, hC0, hZ0, hG0⟩ := In.slice_arg txs h0 (In.reach_each hsz (j := 0) rfl rfl)
  obtain ⟨A1, n1, c1, rfl⟩ := okWide_slice Tryz.underlying22 (hval 1 22 v1 rfl rfl)
  have k1 := h1
  have lt1 : ∀ x ∈ p1, x.block < W.heap.size := by obtain ⟨m, hm⟩ := k1; exact DataW.trod_lt m _ _ _ hm
  obtain ⟨l1, rfl, hc1, hC1, hZ1, hG1⟩ := In.slice_arg puts h1 (In.reach_each hsz (j := 1) rfl rfl)
  obtain ⟨A2, n2, c2, rfl⟩ := okWide_slice Tryz.underlying58 (hval 2 58 v2 rfl rfl)
  have k2 := h2
  have lt2 : ∀ x ∈ p2, x.block < W.heap.size := by obtain ⟨m, hm⟩ := k2; exact DataW.trod_lt m _ _ _ hm
  obtain ⟨l2, rfl, hc2, hC2, hZ2, hG2⟩ := In.slice_arg bools h2 (In.reach_each hsz (j := 2) rfl rfl)
  clear hA0 hval0 hsz0
  refine (walk W sa hrt hsn A0 c0 l0 hC0 hc0 hG0 A1 c1 l1 hC1 hc1 hG1 A2 c2 l2 hC2 hc2 hG2).mono fun e W' ⟨he, bel⟩ => ?_
  subst he
  exact ⟨_, rfl, _, _, _, [], _, [], hW', trodAll_mk1 (shut_bool Tryz.underlying4 _), (trodAll_cons_mk (Below.trod laidOut (by kernel_rfl) (of_decide_eq_true (by kernel_rfl)) k0 bel lt0) (trodAll_cons_mk (Below.trod laidOut (by kernel_rfl) (of_decide_eq_true (by kernel_rfl)) k1 bel lt1) (trodAll_cons_mk (Below.trod laidOut (by kernel_rfl) (of_decide_eq_true (by kernel_rfl)) k2 bel lt2) (trodAll_mk0)))), rfl, bel.frame _, fun h => by cases h⟩
theorem over (walk : Walk) : Rows.JournalEverySaid :=
  OpenClaim.holds_of_cond 5 Tryz.f5 rfl rfl rfl rfl rfl rfl rfl ⟨rfl, rfl, rfl, rfl, rfl⟩ rfl rfl rfl rfl rfl (by kernel_rfl) Tryz.func5 (by kernel_rfl)
    (of_decide_eq_true (by kernel_rfl)) (by unfold Func.isWrapper; first | (rw [if_pos (by decide +kernel)]; kernel_rfl) | (rw [if_neg (by decide +kernel)]; exact ⟨rfl, rfl⟩))
    (fun os started H enc _ F => by rw [OpenClaim.pre_eq_preRow]; exact lifted walk os started H enc F)
theorem plain (f : FuncId) (fn : Func) (hf : Tryz.pinned.checked.prog.funcNamed "annex/annexlaw7.JournalEvery" = some f) (hfn : Tryz.pinned.checked.prog.funcs[f]? = some fn) :
    true = Tryz.pinned.checked.prog.looks [] ∧ ∀ (j : Nat) t, fn.params[j]? = some t → Tryz.pinned.checked.prog.wantsStandIn t = false := by
  obtain rfl : f = 5 := Option.some.inj ((show Tryz.prog.funcNamed "annex/annexlaw7.JournalEvery" = some 5 by kernel_rfl).symm.trans hf) |>.symm
  obtain rfl : fn = Tryz.f5 := (Option.some.inj (Tryz.func5.symm.trans hfn)).symm
  refine ⟨by kernel_rfl, fun j t ht => ?_⟩
  rw [Tryz.params5] at ht
  have hm := Array.mem_of_getElem? ht
  have ht2 : t = 62 ∨ t = 22 ∨ t = 58 := by simpa using hm
  rcases ht2 with rfl | rfl | rfl
  · exact (show Tryz.prog.wantsStandIn 62 = false by kernel_rfl)
  · exact (show Tryz.prog.wantsStandIn 22 = false by kernel_rfl)
  · exact (show Tryz.prog.wantsStandIn 58 = false by kernel_rfl)
theorem put_ok {x : Int × List Int} (h : putG x) : Go.Proofs.YtmafafingdpopaaGreatDoor.Jr.Byte x.2 ∧ x.2.length ≤ 140737488351232 ∧ -9223372036854775808 ≤ x.1 ∧ x.1 < 9223372036854775808 := by
  obtain ⟨h1, h2, h3⟩ := h
  refine ⟨fun y hy => ?_, by omega, ?_⟩
  · have h4 := h3 y hy
    have e1 : IntKind.u8.min = 0 := by decide
    have e2 : IntKind.u8.max = 255 := by decide
    simp [Lit.wf, e1, e2] at h4
    omega
  · have e1 : IntKind.i64.min = -9223372036854775808 := by decide
    have e2 : IntKind.i64.max = 9223372036854775807 := by decide
    simp [Lit.wf, e1, e2] at h1
    omega
theorem fall_ok {x : Int × List Bool} (h : fallG x) : x.1 < 9223372036854775808 := by
  obtain ⟨h1, _⟩ := h
  have e1 : IntKind.i64.min = -9223372036854775808 := by decide
  have e2 : IntKind.i64.max = 9223372036854775807 := by decide
  simp [Lit.wf, e1, e2] at h1
  omega

theorem walk : Walk := by
  intro w sa hrt hsn A0 c0 l0 hC0 hc0 hG0 A1 c1 l1 hC1 hc1 hG1 A2 c2 l2 hC2 hc2 hG2
  exact Sep.every_s hrt hsn ⟨hC0, fun l hl x hx => put_ok ((hG0.2 l hl).2 x hx)⟩ ⟨hC1, fun x hx => put_ok (hG1.2 x hx)⟩ hC2
theorem proved : Rows.JournalEveryCardSaid :=
  Claim7.holds_tied_plain_at .later [] _ _ _ _ (over walk) (fun _ h => by cases h) (by kernel_rfl) (fun _ h => by cases h) journalEvery_row_tie rfl ⟨rfl, rfl⟩ (by kernel_rfl) rfl plain (by kernel_rfl)
#print axioms proved
end Go.Proofs.YtmafafingdpopaaGreatDoor.journalEvery
namespace Go.Proofs.YtmafafingdpopaaGreatDoor
theorem journalEvery_holds : Rows.JournalEveryCardSaid := journalEvery.proved
end Go.Proofs.YtmafafingdpopaaGreatDoor
