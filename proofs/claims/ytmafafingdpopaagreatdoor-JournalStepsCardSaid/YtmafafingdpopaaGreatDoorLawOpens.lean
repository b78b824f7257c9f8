/- The arguments of the journal's laws, as they come in. -/
import Derived.Test.YtmafafingdpopaaGreatDoorInOpen
import Derived.Test.YtmafafingdpopaaGreatDoorRows
namespace Go.Proofs.YtmafafingdpopaaGreatDoor.LawOpens
open Go Go.ChangeShapes Go.WideShapes Go.ChangeAt Go.RowKit Go.Proofs.YtmafafingdpopaaGreatDoorW.PrintWords
set_option linter.unusedVariables false
abbrev KP : Kd (Int × List Int) := Kd.pair (Kd.int .i64) (Kd.slice 5 (Kd.int .u8))
abbrev KF : Kd (Int × List Bool) := Kd.pair (Kd.int .i64) (Kd.slice 4 Kd.bool)
def putZ (v : Int × List Int) : Nat := 1 + (1 + In.zsum (fun _ => 1) v.2)
def putG (v : Int × List Int) : Prop := (Lit.int .i64 v.1).wf = true ∧ (v.2.length * 1 ≤ 140737488351232 ∧ ∀ x ∈ v.2, (Lit.int .u8 x).wf = true)
set_option maxRecDepth 100000 in
theorem put : In.Opens Tryz.prog 41 KP putZ putG :=
  In.opens_struct Tryz.underlying41 (by kernel_rfl) (In.fields_cons rfl rfl (In.opens_int Tryz.underlying3 (by kernel_rfl)) rfl (In.fields_one rfl rfl (In.opens_slice Tryz.underlying39 (by kernel_rfl) (by kernel_rfl) (In.opens_int Tryz.underlying5 (by kernel_rfl)))))
def putsZ (l : List (Int × List Int)) : Nat := 1 + In.zsum putZ l
def putsG (l : List (Int × List Int)) : Prop := l.length * 32 ≤ 140737488351232 ∧ ∀ x ∈ l, putG x
theorem puts : In.Opens Tryz.prog 22 (Kd.slice 41 KP) putsZ putsG := In.opens_slice Tryz.underlying22 (by kernel_rfl) (by kernel_rfl) put
def txsZ (l : List (List (Int × List Int))) : Nat := 1 + In.zsum putsZ l
def txsG (l : List (List (Int × List Int))) : Prop := l.length * 24 ≤ 140737488351232 ∧ ∀ x ∈ l, putsG x
theorem txs : In.Opens Tryz.prog 62 (Kd.slice 22 (Kd.slice 41 KP)) txsZ txsG := In.opens_slice Tryz.underlying62 (by kernel_rfl) (by kernel_rfl) puts
def runsZ (l : List (List (List (Int × List Int)))) : Nat := 1 + In.zsum txsZ l
def runsG (l : List (List (List (Int × List Int)))) : Prop := l.length * 24 ≤ 140737488351232 ∧ ∀ x ∈ l, txsG x
theorem runs : In.Opens Tryz.prog 55 (Kd.slice 62 (Kd.slice 22 (Kd.slice 41 KP))) runsZ runsG := In.opens_slice Tryz.underlying55 (by kernel_rfl) (by kernel_rfl) txs
def fallZ (v : Int × List Bool) : Nat := 1 + (1 + In.zsum (fun _ => 1) v.2)
def fallG (v : Int × List Bool) : Prop := (Lit.int .i64 v.1).wf = true ∧ (v.2.length * 1 ≤ 140737488351232 ∧ ∀ x ∈ v.2, True)
set_option maxRecDepth 100000 in
theorem fall : In.Opens Tryz.prog 60 KF fallZ fallG :=
  In.opens_struct Tryz.underlying60 (by kernel_rfl) (In.fields_cons rfl rfl (In.opens_int Tryz.underlying3 (by kernel_rfl)) rfl (In.fields_one rfl rfl (In.opens_slice Tryz.underlying58 (by kernel_rfl) (by kernel_rfl) (In.opens_bool Tryz.underlying4 (by kernel_rfl)))))
set_option maxRecDepth 100000 in
/-- An argument that is a fall. -/
theorem fall_arg {H : Type} {enc : TypeId × Value → H} {w : World} {r : Reach} {b0 base : Nat} {held : Bool} {v : Value} {x : DataW H} {ps : List MemPlace} (hv : Value.okWide Tryz.prog w r b0 60 v)
    (h : DataW.Trod enc Tryz.prog w base (fun _ => true) held 60 v x ps) (hw : ∀ n ∈ x.weights Tryz.prog 60, n ≤ 140737488351232) :
    ∃ (a : Int) (_ : (Lit.int .i64 a).wf = true) (B : Option Addr) (e : Nat) (ks : List Bool), v = .agg #[.int .i64 a, .slice B ks.length e] ∧ Kd.C Kd.bool w B ks.length ks := by
  unfold Value.okWide at hv
  rw [Tryz.underlying60] at hv
  obtain ⟨cs, rfl, hs, _⟩ := hv
  obtain ⟨fuel, hf⟩ := h
  obtain ⟨y, hK, hZ, hG⟩ := fall.out hf hw
  obtain ⟨c1, c2, e0, h1, h2⟩ := hK
  have e1 : c1 = [.int .i64 y.1] := h1
  subst e1
  obtain ⟨B, e, e2, hl, hC⟩ := h2
  subst e2
  have e3 : cs.toList = [Value.int .i64 y.1, Value.slice B y.2.length e] := by simpa [Value.cells] using e0
  refine ⟨y.1, hG.1, B, e, y.2, ?_, hC⟩
  congr 1
  exact Array.toList_inj.1 e3
def fallsZ (l : List (Int × List Bool)) : Nat := 1 + In.zsum fallZ l
def fallsG (l : List (Int × List Bool)) : Prop := l.length * 32 ≤ 140737488351232 ∧ ∀ x ∈ l, fallG x
theorem falls : In.Opens Tryz.prog 56 (Kd.slice 60 KF) fallsZ fallsG := In.opens_slice Tryz.underlying56 (by kernel_rfl) (by kernel_rfl) fall
def fssZ (l : List (List (Int × List Bool))) : Nat := 1 + In.zsum fallsZ l
def fssG (l : List (List (Int × List Bool))) : Prop := l.length * 24 ≤ 140737488351232 ∧ ∀ x ∈ l, fallsG x
theorem fss : In.Opens Tryz.prog 57 (Kd.slice 56 (Kd.slice 60 KF)) fssZ fssG := In.opens_slice Tryz.underlying57 (by kernel_rfl) (by kernel_rfl) falls
def boolsZ (l : List Bool) : Nat := 1 + In.zsum (fun _ => 1) l
def boolsG (l : List Bool) : Prop := l.length * 1 ≤ 140737488351232 ∧ ∀ x ∈ l, True
theorem bools : In.Opens Tryz.prog 58 (Kd.slice 4 Kd.bool) boolsZ boolsG := In.opens_slice Tryz.underlying58 (by kernel_rfl) (by kernel_rfl) (In.opens_bool Tryz.underlying4 (by kernel_rfl))
end Go.Proofs.YtmafafingdpopaaGreatDoor.LawOpens
