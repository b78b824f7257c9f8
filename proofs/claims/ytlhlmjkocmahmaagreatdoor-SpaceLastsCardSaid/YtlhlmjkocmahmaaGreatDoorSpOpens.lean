/- The arguments of the bitmap's laws, as they come in. -/
import Derived.Test.YtlhlmjkocmahmaaGreatDoorInOpen
import Derived.Test.YtlhlmjkocmahmaaGreatDoorRows
namespace Go.Proofs.YtlhlmjkocmahmaaGreatDoor.LawOpens
open Go Go.ChangeShapes Go.WideShapes Go.ChangeAt Go.RowKit Go.Proofs.YtlhlmjkocmahmaaGreatDoorW.PrintWords
set_option linter.unusedVariables false
abbrev KD : Kd (Bool × Int) := Kd.pair Kd.bool (Kd.int .i64)
def deedZ (v : Bool × Int) : Nat := 1 + 1
def deedG (v : Bool × Int) : Prop := True ∧ (Lit.int .i64 v.2).wf = true
set_option maxRecDepth 100000 in
theorem deed : In.Opens Tryz.prog 87 KD deedZ deedG :=
  In.opens_struct Tryz.underlying87 (by kernel_rfl) (In.fields_cons rfl rfl (In.opens_bool Tryz.underlying4 (by kernel_rfl)) rfl (In.fields_one rfl rfl (In.opens_int Tryz.underlying3 (by kernel_rfl))))
def deedsZ (l : List (Bool × Int)) : Nat := 1 + In.zsum deedZ l
def deedsG (l : List (Bool × Int)) : Prop := l.length * 16 ≤ 140737488351232 ∧ ∀ x ∈ l, deedG x
theorem deeds : In.Opens Tryz.prog 83 (Kd.slice 87 KD) deedsZ deedsG := In.opens_slice Tryz.underlying83 (by kernel_rfl) (by kernel_rfl) deed
abbrev KPart : Kd (List (Bool × Int) × (Int × List Bool)) := Kd.pair (Kd.slice 87 KD) (Kd.pair (Kd.int .i64) (Kd.slice 4 Kd.bool))
def boolsZ (l : List Bool) : Nat := 1 + In.zsum (fun _ => 1) l
def boolsG (l : List Bool) : Prop := l.length * 1 ≤ 140737488351232 ∧ ∀ x ∈ l, True
theorem bools : In.Opens Tryz.prog 84 (Kd.slice 4 Kd.bool) boolsZ boolsG := In.opens_slice Tryz.underlying84 (by kernel_rfl) (by kernel_rfl) (In.opens_bool Tryz.underlying4 (by kernel_rfl))
def partZ (v : List (Bool × Int) × (Int × List Bool)) : Nat := deedsZ v.1 + (1 + boolsZ v.2.2)
def partG (v : List (Bool × Int) × (Int × List Bool)) : Prop := deedsG v.1 ∧ ((Lit.int .i64 v.2.1).wf = true ∧ boolsG v.2.2)
set_option maxRecDepth 100000 in
theorem part : In.Opens Tryz.prog 93 KPart partZ partG :=
  In.opens_struct Tryz.underlying93 (by kernel_rfl) (In.fields_cons rfl rfl deeds rfl (In.fields_cons rfl rfl (In.opens_int Tryz.underlying3 (by kernel_rfl)) rfl (In.fields_one rfl rfl bools)))
def partsZ (l : List (List (Bool × Int) × (Int × List Bool))) : Nat := 1 + In.zsum partZ l
def partsG (l : List (List (Bool × Int) × (Int × List Bool))) : Prop := l.length * 56 ≤ 140737488351232 ∧ ∀ x ∈ l, partG x
theorem parts : In.Opens Tryz.prog 91 (Kd.slice 93 KPart) partsZ partsG := In.opens_slice Tryz.underlying91 (by kernel_rfl) (by kernel_rfl) part
end Go.Proofs.YtlhlmjkocmahmaaGreatDoor.LawOpens
