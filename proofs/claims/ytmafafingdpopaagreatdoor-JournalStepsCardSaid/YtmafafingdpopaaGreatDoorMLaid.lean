/- What the rows' list of variables gives: errors.errorType's handle, the sentinel's place; a world that has both. -/
import Derived.Test.YtmafafingdpopaaGreatDoorRows
import Derived.Test.YtmafafingdpopaaGreatDoorMA4
import Derived.ChangeSame
import Derived.ChangeVars
import Derived.JoinedOf
import Derived.RowKit
import Derived.RowKitTokens
import Derived.LaidLaws
import Derived.LaidHandle
import Derived.LaidMore
import Derived.OpenShut
import Derived.Stop.Joined
namespace Go.Proofs.YtmafafingdpopaaGreatDoor.Laid
open Go Go.ChangeShapes Go.WideShapes Go.RowKit
abbrev laid2 : List (String × DataW Unit) := [("errors.errorType", Rows.laid_errors_errorType), ("annex/bits.errTrouble", Rows.laid_annex_bits_errTrouble)]
theorem own : ownKnob Tryz.prog.godebug = none := by kernel_rfl
theorem et : Tryz.prog.globalNamed "errors.errorType" = some 0 := by kernel_rfl
theorem tr : Tryz.prog.globalNamed "annex/bits.errTrouble" = some 1 := by kernel_rfl
theorem trType : (Tryz.prog.globals[1]?).map (·.type) = some 126 := by kernel_rfl
theorem rt : (Tryz.prog.cutTypes.find? (·.1 == "internal/reflectlite.rtype")).map (·.2) = some 249 := by kernel_rfl
theorem size : ∃ n, Tryz.prog.types.size = n := ⟨_, rfl⟩
theorem oneRow : ((List.range Tryz.prog.types.size).filter fun t => Tryz.prog.rowNamed t [101, 114, 114, 111, 114]) = [126] := by kernel_rfl
theorem cellsE : Tryz.prog.cellsOf 318 = 1 := by kernel_rfl
theorem cellsS : Tryz.prog.cellsOf 9 = 1 := by kernel_rfl
theorem star : "*" ++ "errors.errorString" = "*errors.errorString" := by decide
theorem rowE (u : TypeId) (h : Tryz.prog.typeName? 3 u = some "*errors.errorString") : u = 298 :=
  typeName_ptr_named (nm := "errors.errorString") (by rw [star]; kernel_rfl) (by kernel_rfl) (by decide) u (by rw [star]; exact h)

set_option maxRecDepth 100000 in
theorem of_laid {W : World} (h : laidMetH Tryz.prog laid2 W) : Errs.Rt W ∧ ∃ a, Errs.Sen a W := by
  have h' : laidMet Tryz.prog [("annex/bits.errTrouble", Rows.laid_annex_bits_errTrouble)] W ∧ handlesMet Tryz.prog [("errors.errorType", Rows.laid_errors_errorType)] W := h
  obtain ⟨hl, hh⟩ := h'
  constructor
  · obtain ⟨name, u, ty, e1, e2, e3, e4, e5⟩ := hh _ (List.mem_singleton.2 rfl)
    have en : name = [101, 114, 114, 111, 114] := (Option.some.inj e1).symm
    subst en
    obtain rfl := Option.some.inj (rt.symm.trans e2)
    have hm : ty ∈ (List.range Tryz.prog.types.size).filter fun t => Tryz.prog.rowNamed t [101, 114, 114, 111, 114] := List.mem_filter.2 ⟨List.mem_range.2 e3, e4⟩
    rw [oneRow] at hm
    obtain rfl := List.mem_singleton.1 hm
    have hh : typeHandle Tryz.prog 126 = .pointer (some ⟨2, 126, none⟩) := by kernel_rfl
    rw [hh] at e5
    simpa [Errs.Rt] using World.var?_cell et e5 0
  · obtain ⟨ps, ⟨g1, t1, cs1, f1, p1, q1, hg1, ht1, hv1, hd1, hq1, e1⟩, hnd, hrows⟩ := hl
    obtain rfl := Option.some.inj (tr.symm.trans hg1)
    obtain rfl := Option.some.inj (trType.symm.trans ht1)
    have hq1' : q1 = [] := hq1
    subst hq1'
    subst e1
    obtain ⟨l1⟩ := cs1
    have ok1 : ∀ u v, l1 = [.iface u v] → Value.okWide Tryz.prog W .any 0 u v := fun u v e => by
      subst e
      exact (hrows 1 0 (by simp [MemPlace.row])).2 u v (by simpa using World.var?_cell tr hv1 0)
    obtain ⟨a1, s1, rfl, hc1, hs1, hz1, rfl⟩ := errorString_of_trod Tryz.underlying126 rowE Tryz.underlying298 Tryz.underlying318 rfl rfl Tryz.underlying9 cellsE cellsS hd1 ok1
    exact ⟨a1, by simpa [Errs.Sen] using World.var?_cell tr hv1 0⟩
abbrev troS : ByteArray := { data := #[98, 105, 116, 115, 58, 32, 110, 111, 32, 115, 117, 99, 104, 32, 102, 105, 101, 108, 100] }
noncomputable def low : Nat := (World.holding Tryz.prog default ⟨#[], #[], []⟩).heap.size
/-- A world that meets the list. -/
noncomputable def laidWorld (os : Os) : World :=
  let w0 := World.holding Tryz.prog os ⟨#[.cells #[.string troS] 318], #[], []⟩
  { w0 with heap := (w0.heap.modify 0 fun
      | .cells _ t frozen => .cells #[.iface 249 (.agg #[.pointer (some ⟨2, 126, none⟩)])] t frozen
      | o => o).modify 1 fun
      | .cells _ t frozen => .cells #[.iface 298 (.pointer (some ⟨low, 0, none⟩))] t frozen
      | o => o }
set_option maxRecDepth 100000 in
theorem laid_met (os : Os) (args : Array Value) : laidMetH Tryz.prog laid2 ((laidWorld os).forCall (fun _ _ => 0) ⟨#[], args, []⟩).memory :=
  laidMetH_of_parts (laidMet_of_run' 8 (by kernel_rfl) (by kernel_rfl)) (by kernel_rfl)
end Go.Proofs.YtmafafingdpopaaGreatDoor.Laid
