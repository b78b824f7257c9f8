/- The rows of writes that come in. -/
import Derived.Test.YthnbmfkmaijibaaDevKnown
namespace Go.Proofs.Ythnbmfkmaijibaa.Help
open Go.Proofs Go.RowKit Go.Proofs.YthnbmfkmaijibaaW.PrintWords Go.Proofs.YthnbmfkmaijibaaW.PrintLast Go.Proofs.YthnbmfkmaijibaaW.PrintMore Go.Proofs.Ythnbmfkmaijibaa.IMap Go.Proofs.Ythnbmfkmaijibaa.Dev
set_option linter.unusedVariables false
set_option linter.unusedSimpArgs false
abbrev Wr := Int × Int × Bool
abbrev kW : Kd Wr := Kd.pair (Kd.int .i64) (Kd.pair (Kd.int .u8) Kd.bool)
theorem ws_at {w : World} {A : Option Addr} {l : List Wr} (h : Kd.C kW w A l.length l) (i : Nat) (hi : i < l.length) :
    ∃ ad, A = some ad ∧ w.cell? (ad.add (i * 3)) = some (.int .i64 l[i].1) ∧ w.cell? (ad.add (i * 3 + 1)) = some (.int .u8 l[i].2.1) ∧ w.cell? (ad.add (i * 3 + 2)) = some (.bool l[i].2.2) := by
  obtain ⟨_, _, h3⟩ := h
  obtain ⟨ad, rfl, h4⟩ := h3 (by omega)
  obtain ⟨c, hc, hK, hu⟩ := h4 i l[i] (List.getElem?_eq_getElem hi)
  obtain ⟨c1, c2, rfl, h5, c3, c4, rfl, h6, h7⟩ := hK
  have e1 : c1 = [.int .i64 l[i].1] := h5
  have e2 : c3 = [.int .u8 l[i].2.1] := h6
  have e3 : c4 = [.bool l[i].2.2] := h7
  subst e1
  subst e2
  subst e3
  exact ⟨ad, rfl, hu 0 _ rfl, hu 1 _ rfl, hu 2 _ rfl⟩
end Go.Proofs.Ythnbmfkmaijibaa.Help
