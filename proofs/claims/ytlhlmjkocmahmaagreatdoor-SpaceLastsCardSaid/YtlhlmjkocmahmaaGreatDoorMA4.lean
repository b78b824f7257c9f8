/- errors.As at the program's two small errors, told by Go's own text and the model's entries. -/
import Derived.Test.YtlhlmjkocmahmaaGreatDoorMA2
import Derived.WalkKit
import Derived.LaidEql
import Derived.Stop.Asserts
import Derived.RowKitTokens
import Derived.Test.YtlhlmjkocmahmaaGreatDoorMA3
namespace Go.Proofs.YtlhlmjkocmahmaaGreatDoor.Errs
open Go.Proofs Go.RowKit Go.Extern.Stop Go.Stop Go.Extern Go.Proofs.YtlhlmjkocmahmaaGreatDoorW.PrintWords Go.Proofs.YtlhlmjkocmahmaaGreatDoorW.PrintLast Go.Proofs.YtlhlmjkocmahmaaGreatDoorW.PrintMore Go.Proofs.YtlhlmjkocmahmaaGreatDoor.Dev
set_option linter.unusedVariables false
set_option linter.unusedSimpArgs false
theorem as_nil (t : Value) (w : World) :
    Calls Tryz.prog 93 #[.nilIface, t] w fun e w' => e = .returned (.bool false) ∧ w' = w := by
  go_enter Tryz.func93, Tryz.ntmps93
  go_wp2
  go_ret
  exact ⟨rfl, rfl⟩
theorem rlm (z : Sem Value) (f : TypeId → Addr → Nat → Nat → Sem Value) (v : Value) :
    ReflectliteValue.method z f #[v] = (do match ← ReflectliteValue.parts v with | none => z | some (t, a, fl) => f t a fl (fl % 32)) := rfl
theorem rls (v x : Value) : ReflectliteValue.set #[v, x] = (do
    let (some (dst, a, fl), some (src, b, _)) := (← ReflectliteValue.parts v, ← ReflectliteValue.parts x)
      | unsupported (.noEntry "extern/(internal/reflectlite.Value).Set.zeroValue")
    if fl / ReflectliteValue.flagAddr % 2 == 0 then unsupported (.noEntry "extern/(internal/reflectlite.Value).Set.unaddressable")
    let val ← loadVar src b
    if ← Rtype.directlyAssignable dst src then storeVar dst a val
    else if ← Rtype.implements dst src then
      if (← Rtype.kind src) == 20 then
        match val with
        | .nilIface => unsupported (.noEntry "extern/reflectlite: a nil value of one interface type handed on as a value of another")
        | _ => storeVar dst a val
      else storeVar dst a (.iface src val)
    else panicString ("reflectlite.Set: value of type " ++ (← Rtype.spelt src) ++ " is not assignable to type " ++ (← Rtype.spelt dst))
    pure (.tuple #[])) := rfl
theorem valueOfF (t : Addr) (w : World) : (ReflectliteValue.unpack (.iface 165 (.pointer (some t)))).run Tryz.prog w
    = .ok (.agg #[.pointer (some ⟨3, 165, none⟩), .pointer (some ⟨w.heap.size, 0, none⟩), .int .u64 150]) (w.alloc (.cells #[.pointer (some t)] 165)) := by kernel_rfl
theorem typeF (a : Addr) (w : World) : (ReflectliteValue.methodAny (ReflectliteValue.valueError "reflectlite.Value.Type" 0) (fun t _ _ _ => ReflectliteType.toType t) #[.agg #[.pointer (some ⟨3, 165, none⟩), .pointer (some a), .int .u64 150]]).run Tryz.prog w
    = .ok (.iface 219 (.agg #[.pointer (some ⟨3, 165, none⟩)])) w := by kernel_rfl
theorem kindF (w : World) : ((ReflectliteType.abiMethod fun t => (fun a : Nat => Value.int IntKind.u8 (a : Int)) <$> Rtype.kind t) #[.pointer (some ⟨3, 165, none⟩)]).run Tryz.prog w = .ok (.int .u8 22) w := by kernel_rfl
theorem kindEF (w : World) : ((ReflectliteType.abiMethod fun t => (fun a : Nat => Value.int IntKind.u8 (a : Int)) <$> Rtype.kind t) #[.pointer (some ⟨3, 163, none⟩)]).run Tryz.prog w = .ok (.int .u8 25) w := by kernel_rfl
theorem partsF (a : Addr) (w : World) : (ReflectliteValue.parts (.agg #[.pointer (some ⟨3, 165, none⟩), .pointer (some a), .int .u64 150])).run Tryz.prog w = .ok (some (165, a, 150)) w := by kernel_rfl
theorem isNilF (a p : Addr) (W : World) (ha : W.cell? a = some (.pointer (some p))) :
    (ReflectliteValue.method (ReflectliteValue.valueError "reflectlite.Value.IsNil" 0) ReflectliteValue.isNil #[.agg #[.pointer (some ⟨3, 165, none⟩), .pointer (some a), .int .u64 150]]).run Tryz.prog W = .ok (.bool false) W := by
  rw [rlm]
  simp only [Sem.run_bind, partsF, Result.andThen]
  simp [ReflectliteValue.isNil, loadVar, isAgg, underlying, Tryz.underlying165, ha, Result.andThen]
theorem elemF (w : World) : (ReflectliteType.method ReflectliteType.elem #[.agg #[.pointer (some ⟨3, 165, none⟩)]]).run Tryz.prog w = .ok (.iface 219 (.agg #[.pointer (some ⟨3, 163, none⟩)])) w := by kernel_rfl
theorem implementsF (w : World) : (ReflectliteType.relation "Implements" ReflectliteType.implements_ #[.agg #[.pointer (some ⟨3, 163, none⟩)], .iface 219 (.agg #[.pointer (some ⟨3, 127, none⟩)])]).run Tryz.prog w = .ok (.bool true) w := by kernel_rfl
theorem typeOfF (v : Value) (w : World) : (ReflectliteType.typeOf #[.iface 163 v]).run Tryz.prog w = .ok (.iface 219 (.agg #[.pointer (some ⟨3, 163, none⟩)])) w := by kernel_rfl
theorem assignableF (w : World) : (ReflectliteType.relation "AssignableTo" ReflectliteType.assignableTo #[.agg #[.pointer (some ⟨3, 163, none⟩)], .iface 219 (.agg #[.pointer (some ⟨3, 163, none⟩)])]).run Tryz.prog w = .ok (.bool true) w := by kernel_rfl
theorem valueOfEF (c : Int) (w : World) : (ReflectliteValue.unpack (.iface 163 (.agg #[.int .i64 c]))).run Tryz.prog w
    = .ok (.agg #[.pointer (some ⟨3, 163, none⟩), .pointer (some ⟨w.heap.size, 0, none⟩), .int .u64 153]) (w.alloc (.cells #[.int .i64 c] 163)) := by kernel_rfl
theorem elemOfF (w : World) : (Rtype.elem? 165).run Tryz.prog w = .ok (some 163) w := by kernel_rfl
theorem mkEF (p : Addr) (w : World) : (ReflectliteValue.mk 163 p ReflectliteValue.flagAddr).run Tryz.prog w = .ok (.agg #[.pointer (some ⟨3, 163, none⟩), .pointer (some p), .int .u64 409]) w := by kernel_rfl
theorem elemVF (a p : Addr) (W : World) (ha : W.cell? a = some (.pointer (some p))) :
    (ReflectliteValue.method (ReflectliteValue.valueError "reflectlite.Value.Elem" 0) ReflectliteValue.elem #[.agg #[.pointer (some ⟨3, 165, none⟩), .pointer (some a), .int .u64 150]]).run Tryz.prog W
      = .ok (.agg #[.pointer (some ⟨3, 163, none⟩), .pointer (some p), .int .u64 409]) W := by
  rw [rlm]
  simp only [Sem.run_bind, partsF, Result.andThen]
  simp [ReflectliteValue.elem, loadVar, isAgg, underlying, Tryz.underlying165, ha, Result.andThen, elemOfF, mkEF]
theorem partsEaF (a : Addr) (w : World) : (ReflectliteValue.parts (.agg #[.pointer (some ⟨3, 163, none⟩), .pointer (some a), .int .u64 409])).run Tryz.prog w = .ok (some (163, a, 409)) w := by kernel_rfl
theorem partsEF (a : Addr) (w : World) : (ReflectliteValue.parts (.agg #[.pointer (some ⟨3, 163, none⟩), .pointer (some a), .int .u64 153])).run Tryz.prog w = .ok (some (163, a, 153)) w := by kernel_rfl
theorem directF (w : World) : (Rtype.directlyAssignable 163 163).run Tryz.prog w = .ok true w := by kernel_rfl

theorem valueOfT (t : Addr) (w : World) : (ReflectliteValue.unpack (.iface 249 (.pointer (some t)))).run Tryz.prog w
    = .ok (.agg #[.pointer (some ⟨3, 249, none⟩), .pointer (some ⟨w.heap.size, 0, none⟩), .int .u64 150]) (w.alloc (.cells #[.pointer (some t)] 249)) := by kernel_rfl
theorem typeT (a : Addr) (w : World) : (ReflectliteValue.methodAny (ReflectliteValue.valueError "reflectlite.Value.Type" 0) (fun t _ _ _ => ReflectliteType.toType t) #[.agg #[.pointer (some ⟨3, 249, none⟩), .pointer (some a), .int .u64 150]]).run Tryz.prog w
    = .ok (.iface 219 (.agg #[.pointer (some ⟨3, 249, none⟩)])) w := by kernel_rfl
theorem kindT (w : World) : ((ReflectliteType.abiMethod fun t => (fun a : Nat => Value.int IntKind.u8 (a : Int)) <$> Rtype.kind t) #[.pointer (some ⟨3, 249, none⟩)]).run Tryz.prog w = .ok (.int .u8 22) w := by kernel_rfl
theorem kindET (w : World) : ((ReflectliteType.abiMethod fun t => (fun a : Nat => Value.int IntKind.u8 (a : Int)) <$> Rtype.kind t) #[.pointer (some ⟨3, 247, none⟩)]).run Tryz.prog w = .ok (.int .u8 25) w := by kernel_rfl
theorem partsT (a : Addr) (w : World) : (ReflectliteValue.parts (.agg #[.pointer (some ⟨3, 249, none⟩), .pointer (some a), .int .u64 150])).run Tryz.prog w = .ok (some (249, a, 150)) w := by kernel_rfl
theorem isNilT (a p : Addr) (W : World) (ha : W.cell? a = some (.pointer (some p))) :
    (ReflectliteValue.method (ReflectliteValue.valueError "reflectlite.Value.IsNil" 0) ReflectliteValue.isNil #[.agg #[.pointer (some ⟨3, 249, none⟩), .pointer (some a), .int .u64 150]]).run Tryz.prog W = .ok (.bool false) W := by
  rw [rlm]
  simp only [Sem.run_bind, partsT, Result.andThen]
  simp [ReflectliteValue.isNil, loadVar, isAgg, underlying, Tryz.underlying249, ha, Result.andThen]
theorem elemT (w : World) : (ReflectliteType.method ReflectliteType.elem #[.agg #[.pointer (some ⟨3, 249, none⟩)]]).run Tryz.prog w = .ok (.iface 219 (.agg #[.pointer (some ⟨3, 247, none⟩)])) w := by kernel_rfl
theorem implementsT (w : World) : (ReflectliteType.relation "Implements" ReflectliteType.implements_ #[.agg #[.pointer (some ⟨3, 247, none⟩)], .iface 219 (.agg #[.pointer (some ⟨3, 127, none⟩)])]).run Tryz.prog w = .ok (.bool true) w := by kernel_rfl
theorem typeOfT (v : Value) (w : World) : (ReflectliteType.typeOf #[.iface 247 v]).run Tryz.prog w = .ok (.iface 219 (.agg #[.pointer (some ⟨3, 247, none⟩)])) w := by kernel_rfl
theorem assignableT (w : World) : (ReflectliteType.relation "AssignableTo" ReflectliteType.assignableTo #[.agg #[.pointer (some ⟨3, 247, none⟩)], .iface 219 (.agg #[.pointer (some ⟨3, 247, none⟩)])]).run Tryz.prog w = .ok (.bool true) w := by kernel_rfl
theorem valueOfET (c : Int) (w : World) : (ReflectliteValue.unpack (.iface 247 (.agg #[.int .i64 c]))).run Tryz.prog w
    = .ok (.agg #[.pointer (some ⟨3, 247, none⟩), .pointer (some ⟨w.heap.size, 0, none⟩), .int .u64 153]) (w.alloc (.cells #[.int .i64 c] 247)) := by kernel_rfl
theorem elemOfT (w : World) : (Rtype.elem? 249).run Tryz.prog w = .ok (some 247) w := by kernel_rfl
theorem mkET (p : Addr) (w : World) : (ReflectliteValue.mk 247 p ReflectliteValue.flagAddr).run Tryz.prog w = .ok (.agg #[.pointer (some ⟨3, 247, none⟩), .pointer (some p), .int .u64 409]) w := by kernel_rfl
theorem elemVT (a p : Addr) (W : World) (ha : W.cell? a = some (.pointer (some p))) :
    (ReflectliteValue.method (ReflectliteValue.valueError "reflectlite.Value.Elem" 0) ReflectliteValue.elem #[.agg #[.pointer (some ⟨3, 249, none⟩), .pointer (some a), .int .u64 150]]).run Tryz.prog W
      = .ok (.agg #[.pointer (some ⟨3, 247, none⟩), .pointer (some p), .int .u64 409]) W := by
  rw [rlm]
  simp only [Sem.run_bind, partsT, Result.andThen]
  simp [ReflectliteValue.elem, loadVar, isAgg, underlying, Tryz.underlying249, ha, Result.andThen, elemOfT, mkET]
theorem partsEaT (a : Addr) (w : World) : (ReflectliteValue.parts (.agg #[.pointer (some ⟨3, 247, none⟩), .pointer (some a), .int .u64 409])).run Tryz.prog w = .ok (some (247, a, 409)) w := by kernel_rfl
theorem partsET (a : Addr) (w : World) : (ReflectliteValue.parts (.agg #[.pointer (some ⟨3, 247, none⟩), .pointer (some a), .int .u64 153])).run Tryz.prog w = .ok (some (247, a, 153)) w := by kernel_rfl
theorem directT (w : World) : (Rtype.directlyAssignable 247 247).run Tryz.prog w = .ok true w := by kernel_rfl

end Go.Proofs.YtlhlmjkocmahmaaGreatDoor.Errs
/- errors.As at the program's two small errors: the walk. -/
namespace Go.Proofs.YtlhlmjkocmahmaaGreatDoor.Errs
open Go.Proofs Go.RowKit Go.Extern.Stop Go.Stop Go.Extern Go.Proofs.YtlhlmjkocmahmaaGreatDoorW.PrintWords Go.Proofs.YtlhlmjkocmahmaaGreatDoorW.PrintLast Go.Proofs.YtlhlmjkocmahmaaGreatDoorW.PrintMore Go.Proofs.YtlhlmjkocmahmaaGreatDoor.Dev
set_option linter.unusedVariables false
set_option linter.unusedSimpArgs false
theorem sizeF (w : World) : (sizeOf 163).run Tryz.prog w = .ok 1 w := by kernel_rfl
theorem isAggF (w : World) : (isAgg 163).run Tryz.prog w = .ok true w := by kernel_rfl
theorem loadF (b : Addr) (c : Int) (W : World) (hb : W.cell? b = some (.int .i64 c)) : (loadVar 163 b).run Tryz.prog W = .ok (.agg #[.int .i64 c]) W := by
  unfold loadVar
  simp only [Sem.run_bind, isAggF, sizeF, Result.andThen, if_true]
  simp [loadCells, loadCellsFrom, Addr.add, hb, Result.andThen]
theorem setVF (ta b : Addr) (c : Int) (old : Value) (W : World) (hb : W.cell? b = some (.int .i64 c)) (ht : W.cell? ta = some old) (hf : W.frozen? ta = false) :
    (ReflectliteValue.set #[.agg #[.pointer (some ⟨3, 163, none⟩), .pointer (some ta), .int .u64 409], .agg #[.pointer (some ⟨3, 163, none⟩), .pointer (some b), .int .u64 153]]).run Tryz.prog W
      = .ok (.tuple #[]) (W.setCell ta (.int .i64 c)) := by
  rw [rls]
  simp only [Sem.run_bind, partsEaF, partsEF, Result.andThen]
  simp only [ReflectliteValue.flagAddr, loadF b c W hb, Result.andThen, directF]
  simp [Result.andThen, directF, loadF b c W hb, storeVar, sizeF, Value.cells, storeCells, Addr.add]
  rw [run_store Tryz.prog W ta _ _ (by rfl)]
  simp [ht, hf]

theorem sizeT (w : World) : (sizeOf 247).run Tryz.prog w = .ok 1 w := by kernel_rfl
theorem isAggT (w : World) : (isAgg 247).run Tryz.prog w = .ok true w := by kernel_rfl
theorem loadT (b : Addr) (c : Int) (W : World) (hb : W.cell? b = some (.int .i64 c)) : (loadVar 247 b).run Tryz.prog W = .ok (.agg #[.int .i64 c]) W := by
  unfold loadVar
  simp only [Sem.run_bind, isAggT, sizeT, Result.andThen, if_true]
  simp [loadCells, loadCellsFrom, Addr.add, hb, Result.andThen]
theorem setVT (ta b : Addr) (c : Int) (old : Value) (W : World) (hb : W.cell? b = some (.int .i64 c)) (ht : W.cell? ta = some old) (hf : W.frozen? ta = false) :
    (ReflectliteValue.set #[.agg #[.pointer (some ⟨3, 247, none⟩), .pointer (some ta), .int .u64 409], .agg #[.pointer (some ⟨3, 247, none⟩), .pointer (some b), .int .u64 153]]).run Tryz.prog W
      = .ok (.tuple #[]) (W.setCell ta (.int .i64 c)) := by
  rw [rls]
  simp only [Sem.run_bind, partsEaT, partsET, Result.andThen]
  simp only [ReflectliteValue.flagAddr, loadT b c W hb, Result.andThen, directT]
  simp [Result.andThen, directT, loadT b c W hb, storeVar, sizeT, Value.cells, storeCells, Addr.add]
  rw [run_store Tryz.prog W ta _ _ (by rfl)]
  simp [ht, hf]

theorem methodKind (h : Value) (w : World) : (Go.method 413 219 (.agg #[h]) "Kind").run Tryz.prog w = .ok (186, h) w := by kernel_rfl
theorem methodElem (h : Value) (w : World) : (Go.method 413 219 (.agg #[h]) "Elem").run Tryz.prog w = .ok (200, .agg #[h]) w := by kernel_rfl
theorem methodImplements (h : Value) (w : World) : (Go.method 413 219 (.agg #[h]) "Implements").run Tryz.prog w = .ok (201, .agg #[h]) w := by kernel_rfl
theorem methodAssignableTo (h : Value) (w : World) : (Go.method 413 219 (.agg #[h]) "AssignableTo").run Tryz.prog w = .ok (198, .agg #[h]) w := by kernel_rfl
theorem methodComparable (h : Value) (w : World) : (Go.method 413 219 (.agg #[h]) "Comparable").run Tryz.prog w = .ok (199, .agg #[h]) w := by kernel_rfl
/-- What a Value is, as a block. -/
abbrev rv (T : TypeId) (a : Addr) : Obj := .cells #[.pointer (some ⟨3, T, none⟩), .pointer (some a), .int .u64 150] 194
/-- What errors.As leaves: four blocks, and the target set. -/
def asWorldF (w : World) (t : Addr) (c : Int) : World :=
  ((((w.alloc (.cells #[.pointer (some t)] 165)).alloc (rv 165 ⟨w.heap.size, 0, none⟩)).alloc (rv 165 ⟨w.heap.size, 0, none⟩)).alloc (.cells #[.int .i64 c] 163)).setCell t (.int .i64 c)
set_option maxRecDepth 100000 in
set_option maxHeartbeats 4000000 in
theorem as_hitF (c : Int) (t : Addr) (old : Value) (w : World) (hg : w.cell? ⟨1, 0, none⟩ = some (.iface 219 (.agg #[.pointer (some ⟨3, 127, none⟩)]))) (ht0 : w.cell? t = some old) (hf0 : w.frozen? t = false) :
    Calls Tryz.prog 93 #[.iface 163 (.agg #[.int .i64 c]), .iface 165 (.pointer (some t))] w fun ev w' => ev = .returned (.bool true) ∧ w' = asWorldF w t c := by
  have h6 := @run_callFunc_extern Tryz.prog 115 _ (fun args => ReflectliteValue.unpack (args.getD 0 (.tuple #[]))) Tryz.func115 (by kernel_rfl) (by kernel_rfl) (by kernel_rfl) (by kernel_rfl)
  have h7 := @run_callFunc_extern Tryz.prog 116 _ (ReflectliteValue.methodAny (ReflectliteValue.valueError "reflectlite.Value.Type" 0) (fun t _ _ _ => ReflectliteType.toType t)) Tryz.func116 (by kernel_rfl) (by kernel_rfl) (by kernel_rfl) (by kernel_rfl)
  have h8 := @run_callFunc_extern Tryz.prog 117 _ (ReflectliteValue.method (ReflectliteValue.valueError "reflectlite.Value.IsNil" 0) ReflectliteValue.isNil) Tryz.func117 (by kernel_rfl) (by kernel_rfl) (by kernel_rfl) (by kernel_rfl)
  have h27 := @run_callFunc_extern Tryz.prog 186 _ (ReflectliteType.abiMethod fun t => do pure (.int .u8 (← Rtype.kind t))) Tryz.func186 (by kernel_rfl) (by kernel_rfl) (by kernel_rfl) (by kernel_rfl)
  have h37 := @run_callFunc_extern Tryz.prog 200 _ (ReflectliteType.method ReflectliteType.elem) Tryz.func200 (by kernel_rfl) (by kernel_rfl) (by kernel_rfl) (by kernel_rfl)
  have h38 := @run_callFunc_extern Tryz.prog 201 _ (ReflectliteType.relation "Implements" ReflectliteType.implements_) Tryz.func201 (by kernel_rfl) (by kernel_rfl) (by kernel_rfl) (by kernel_rfl)
  have h10 := @run_callFunc_extern Tryz.prog 140 _ ReflectliteType.typeOf Tryz.func140 (by kernel_rfl) (by kernel_rfl) (by kernel_rfl) (by kernel_rfl)
  have h35 := @run_callFunc_extern Tryz.prog 198 _ (ReflectliteType.relation "AssignableTo" ReflectliteType.assignableTo) Tryz.func198 (by kernel_rfl) (by kernel_rfl) (by kernel_rfl) (by kernel_rfl)
  have h11 := @run_callFunc_extern Tryz.prog 141 _ (ReflectliteValue.method (ReflectliteValue.valueError "reflectlite.Value.Elem" 0) ReflectliteValue.elem) Tryz.func141 (by kernel_rfl) (by kernel_rfl) (by kernel_rfl) (by kernel_rfl)
  have h12 := @run_callFunc_extern Tryz.prog 142 _ ReflectliteValue.set Tryz.func142 (by kernel_rfl) (by kernel_rfl) (by kernel_rfl) (by kernel_rfl)
  have tO := typeOfF
  have mA := methodAssignableTo
  have a25 := assignableF
  have v25 := valueOfEF
  have f6 := valueOfF
  have f7 := typeF
  have mK := methodKind
  have mE := methodElem
  have mI := methodImplements
  have k27 := kindF
  have k25 := kindEF
  have e27 := elemF
  have i25 := implementsF
  have n8 := isNilF ⟨w.heap.size, 0, none⟩ t ((w.alloc (.cells #[.pointer (some t)] 165)).alloc (rv 165 ⟨w.heap.size, 0, none⟩)) (by simp)
  have hlt : 1 < w.heap.size := by
    rcases Nat.lt_or_ge 1 w.heap.size with h | h
    · exact h
    · simp [World.cell?, Array.getElem?_eq_none h] at hg
  have hg2 : ((w.alloc (.cells #[.pointer (some t)] 165)).alloc (rv 165 ⟨w.heap.size, 0, none⟩)).cell? ⟨1, 0, none⟩ = some (.iface 219 (.agg #[.pointer (some ⟨3, 127, none⟩)])) := by
    rw [World.cell?_alloc_lt _ _ ⟨1, 0, none⟩ (Nat.lt_of_lt_of_le hlt (by simp)), World.cell?_alloc_lt _ _ ⟨1, 0, none⟩ hlt]; exact hg
  have htl : t.block < w.heap.size := by
    rcases Nat.lt_or_ge t.block w.heap.size with h | h
    · exact h
    · simp [World.cell?, Array.getElem?_eq_none h] at ht0
  have el := elemVF ⟨w.heap.size, 0, none⟩ t (((w.alloc (.cells #[.pointer (some t)] 165)).alloc (rv 165 ⟨w.heap.size, 0, none⟩)).alloc (rv 165 ⟨w.heap.size, 0, none⟩)) (by rw [World.cell?_alloc_lt _ _ ⟨w.heap.size, 0, none⟩ (by simp; omega)]; simp)
  have st := setVF t ⟨w.heap.size + 1 + 1 + 1, 0, none⟩ c old ((((w.alloc (.cells #[.pointer (some t)] 165)).alloc (rv 165 ⟨w.heap.size, 0, none⟩)).alloc (rv 165 ⟨w.heap.size, 0, none⟩)).alloc (.cells #[.int .i64 c] 163))
    (by rw [World.cell?_alloc_at _ _ _ _ (by simp)]; rfl)
    (by rw [World.cell?_alloc_lt _ _ t (by simp; omega), World.cell?_alloc_lt _ _ t (by simp; omega), World.cell?_alloc_lt _ _ t (by simp; omega), World.cell?_alloc_lt _ _ t htl]; exact ht0)
    (by rw [World.frozen?_alloc_old _ _ t (by simp; omega), World.frozen?_alloc_old _ _ t (by simp; omega), World.frozen?_alloc_old _ _ t (by simp; omega), World.frozen?_alloc_old _ _ t (Nat.ne_of_lt htl)]; exact hf0)
  go_enter Tryz.func93, Tryz.ntmps93
  go_wp2
  refine wp_loop_rounds 1 ?_
  rw [rounds_succ]
  go_wp2
  go_ret
  exact ⟨rfl, rfl⟩

/-- What errors.As leaves: four blocks, and the target set. -/
def asWorldT (w : World) (t : Addr) (c : Int) : World :=
  ((((w.alloc (.cells #[.pointer (some t)] 249)).alloc (rv 249 ⟨w.heap.size, 0, none⟩)).alloc (rv 249 ⟨w.heap.size, 0, none⟩)).alloc (.cells #[.int .i64 c] 247)).setCell t (.int .i64 c)
set_option maxRecDepth 100000 in
set_option maxHeartbeats 4000000 in
theorem as_hitT (c : Int) (t : Addr) (old : Value) (w : World) (hg : w.cell? ⟨1, 0, none⟩ = some (.iface 219 (.agg #[.pointer (some ⟨3, 127, none⟩)]))) (ht0 : w.cell? t = some old) (hf0 : w.frozen? t = false) :
    Calls Tryz.prog 93 #[.iface 247 (.agg #[.int .i64 c]), .iface 249 (.pointer (some t))] w fun ev w' => ev = .returned (.bool true) ∧ w' = asWorldT w t c := by
  have h6 := @run_callFunc_extern Tryz.prog 115 _ (fun args => ReflectliteValue.unpack (args.getD 0 (.tuple #[]))) Tryz.func115 (by kernel_rfl) (by kernel_rfl) (by kernel_rfl) (by kernel_rfl)
  have h7 := @run_callFunc_extern Tryz.prog 116 _ (ReflectliteValue.methodAny (ReflectliteValue.valueError "reflectlite.Value.Type" 0) (fun t _ _ _ => ReflectliteType.toType t)) Tryz.func116 (by kernel_rfl) (by kernel_rfl) (by kernel_rfl) (by kernel_rfl)
  have h8 := @run_callFunc_extern Tryz.prog 117 _ (ReflectliteValue.method (ReflectliteValue.valueError "reflectlite.Value.IsNil" 0) ReflectliteValue.isNil) Tryz.func117 (by kernel_rfl) (by kernel_rfl) (by kernel_rfl) (by kernel_rfl)
  have h27 := @run_callFunc_extern Tryz.prog 186 _ (ReflectliteType.abiMethod fun t => do pure (.int .u8 (← Rtype.kind t))) Tryz.func186 (by kernel_rfl) (by kernel_rfl) (by kernel_rfl) (by kernel_rfl)
  have h37 := @run_callFunc_extern Tryz.prog 200 _ (ReflectliteType.method ReflectliteType.elem) Tryz.func200 (by kernel_rfl) (by kernel_rfl) (by kernel_rfl) (by kernel_rfl)
  have h38 := @run_callFunc_extern Tryz.prog 201 _ (ReflectliteType.relation "Implements" ReflectliteType.implements_) Tryz.func201 (by kernel_rfl) (by kernel_rfl) (by kernel_rfl) (by kernel_rfl)
  have h10 := @run_callFunc_extern Tryz.prog 140 _ ReflectliteType.typeOf Tryz.func140 (by kernel_rfl) (by kernel_rfl) (by kernel_rfl) (by kernel_rfl)
  have h35 := @run_callFunc_extern Tryz.prog 198 _ (ReflectliteType.relation "AssignableTo" ReflectliteType.assignableTo) Tryz.func198 (by kernel_rfl) (by kernel_rfl) (by kernel_rfl) (by kernel_rfl)
  have h11 := @run_callFunc_extern Tryz.prog 141 _ (ReflectliteValue.method (ReflectliteValue.valueError "reflectlite.Value.Elem" 0) ReflectliteValue.elem) Tryz.func141 (by kernel_rfl) (by kernel_rfl) (by kernel_rfl) (by kernel_rfl)
  have h12 := @run_callFunc_extern Tryz.prog 142 _ ReflectliteValue.set Tryz.func142 (by kernel_rfl) (by kernel_rfl) (by kernel_rfl) (by kernel_rfl)
  have tO := typeOfT
  have mA := methodAssignableTo
  have a25 := assignableT
  have v25 := valueOfET
  have f6 := valueOfT
  have f7 := typeT
  have mK := methodKind
  have mE := methodElem
  have mI := methodImplements
  have k27 := kindT
  have k25 := kindET
  have e27 := elemT
  have i25 := implementsT
  have n8 := isNilT ⟨w.heap.size, 0, none⟩ t ((w.alloc (.cells #[.pointer (some t)] 249)).alloc (rv 249 ⟨w.heap.size, 0, none⟩)) (by simp)
  have hlt : 1 < w.heap.size := by
    rcases Nat.lt_or_ge 1 w.heap.size with h | h
    · exact h
    · simp [World.cell?, Array.getElem?_eq_none h] at hg
  have hg2 : ((w.alloc (.cells #[.pointer (some t)] 249)).alloc (rv 249 ⟨w.heap.size, 0, none⟩)).cell? ⟨1, 0, none⟩ = some (.iface 219 (.agg #[.pointer (some ⟨3, 127, none⟩)])) := by
    rw [World.cell?_alloc_lt _ _ ⟨1, 0, none⟩ (Nat.lt_of_lt_of_le hlt (by simp)), World.cell?_alloc_lt _ _ ⟨1, 0, none⟩ hlt]; exact hg
  have htl : t.block < w.heap.size := by
    rcases Nat.lt_or_ge t.block w.heap.size with h | h
    · exact h
    · simp [World.cell?, Array.getElem?_eq_none h] at ht0
  have el := elemVT ⟨w.heap.size, 0, none⟩ t (((w.alloc (.cells #[.pointer (some t)] 249)).alloc (rv 249 ⟨w.heap.size, 0, none⟩)).alloc (rv 249 ⟨w.heap.size, 0, none⟩)) (by rw [World.cell?_alloc_lt _ _ ⟨w.heap.size, 0, none⟩ (by simp; omega)]; simp)
  have st := setVT t ⟨w.heap.size + 1 + 1 + 1, 0, none⟩ c old ((((w.alloc (.cells #[.pointer (some t)] 249)).alloc (rv 249 ⟨w.heap.size, 0, none⟩)).alloc (rv 249 ⟨w.heap.size, 0, none⟩)).alloc (.cells #[.int .i64 c] 247))
    (by rw [World.cell?_alloc_at _ _ _ _ (by simp)]; rfl)
    (by rw [World.cell?_alloc_lt _ _ t (by simp; omega), World.cell?_alloc_lt _ _ t (by simp; omega), World.cell?_alloc_lt _ _ t (by simp; omega), World.cell?_alloc_lt _ _ t htl]; exact ht0)
    (by rw [World.frozen?_alloc_old _ _ t (by simp; omega), World.frozen?_alloc_old _ _ t (by simp; omega), World.frozen?_alloc_old _ _ t (by simp; omega), World.frozen?_alloc_old _ _ t (Nat.ne_of_lt htl)]; exact hf0)
  go_enter Tryz.func93, Tryz.ntmps93
  go_wp2
  refine wp_loop_rounds 1 ?_
  rw [rounds_succ]
  go_wp2
  go_ret
  exact ⟨rfl, rfl⟩

end Go.Proofs.YtlhlmjkocmahmaaGreatDoor.Errs
/- errors.As through 'lost', and journal.code. -/
namespace Go.Proofs.YtlhlmjkocmahmaaGreatDoor.Errs
open Go.Proofs Go.RowKit Go.Extern.Stop Go.Stop Go.Extern Go.Proofs.YtlhlmjkocmahmaaGreatDoorW.PrintWords Go.Proofs.YtlhlmjkocmahmaaGreatDoorW.PrintLast Go.Proofs.YtlhlmjkocmahmaaGreatDoorW.PrintMore Go.Proofs.YtlhlmjkocmahmaaGreatDoor.Dev
set_option linter.unusedVariables false
set_option linter.unusedSimpArgs false
theorem typeOfL (v : Value) (w : World) : (ReflectliteType.typeOf #[.iface 190 v]).run Tryz.prog w = .ok (.iface 219 (.agg #[.pointer (some ⟨3, 190, none⟩)])) w := by kernel_rfl
theorem assignL (w : World) : (ReflectliteType.relation "AssignableTo" ReflectliteType.assignableTo #[.agg #[.pointer (some ⟨3, 190, none⟩)], .iface 219 (.agg #[.pointer (some ⟨3, 163, none⟩)])]).run Tryz.prog w = .ok (.bool false) w := by kernel_rfl
theorem noAsL (v : Value) (xT : TypeId) (w : World) : (Instr.typeAssert (.iface 190 v) xT 224 true).run Tryz.prog w = .ok (.tuple #[.nilIface, .bool false]) w := run_typeAssert_lacksB Tryz.underlying224 (by kernel_rfl) (by kernel_rfl) v xT w
theorem hasUnwrapL (v : Value) (xT : TypeId) (w : World) : (Instr.typeAssert (.iface 190 v) xT 227 true).run Tryz.prog w = .ok (.tuple #[.iface 190 v, .bool true]) w := run_typeAssert_hasB Tryz.underlying227 (by kernel_rfl) v xT w
theorem methodUnwrapL (v : Value) (w : World) : (Go.method 413 190 v "Unwrap").run Tryz.prog w = .ok (193, v) w := by kernel_rfl
def asLost (w : World) (t : Addr) (what : ByteArray) (c : Int) : World :=
  (((((w.alloc (.cells #[.pointer (some t)] 165)).alloc (rv 165 ⟨w.heap.size, 0, none⟩)).alloc (rv 165 ⟨w.heap.size, 0, none⟩)).alloc (.cells #[.string what, .iface 163 (.agg #[.int .i64 c])] 190)).alloc (.cells #[.int .i64 c] 163)).setCell t (.int .i64 c)
set_option maxRecDepth 100000 in
set_option maxHeartbeats 4000000 in
theorem as_lost (what : ByteArray) (c : Int) (t : Addr) (old : Value) (w : World) (hg : w.cell? ⟨1, 0, none⟩ = some (.iface 219 (.agg #[.pointer (some ⟨3, 127, none⟩)]))) (ht0 : w.cell? t = some old) (hf0 : w.frozen? t = false) :
    Calls Tryz.prog 93 #[.iface 190 (.agg #[.string what, .iface 163 (.agg #[.int .i64 c])]), .iface 165 (.pointer (some t))] w fun ev w' => ev = .returned (.bool true) ∧ w' = asLost w t what c := by
  have h6 := @run_callFunc_extern Tryz.prog 115 _ (fun args => ReflectliteValue.unpack (args.getD 0 (.tuple #[]))) Tryz.func115 (by kernel_rfl) (by kernel_rfl) (by kernel_rfl) (by kernel_rfl)
  have h7 := @run_callFunc_extern Tryz.prog 116 _ (ReflectliteValue.methodAny (ReflectliteValue.valueError "reflectlite.Value.Type" 0) (fun t _ _ _ => ReflectliteType.toType t)) Tryz.func116 (by kernel_rfl) (by kernel_rfl) (by kernel_rfl) (by kernel_rfl)
  have h8 := @run_callFunc_extern Tryz.prog 117 _ (ReflectliteValue.method (ReflectliteValue.valueError "reflectlite.Value.IsNil" 0) ReflectliteValue.isNil) Tryz.func117 (by kernel_rfl) (by kernel_rfl) (by kernel_rfl) (by kernel_rfl)
  have h27 := @run_callFunc_extern Tryz.prog 186 _ (ReflectliteType.abiMethod fun t => do pure (.int .u8 (← Rtype.kind t))) Tryz.func186 (by kernel_rfl) (by kernel_rfl) (by kernel_rfl) (by kernel_rfl)
  have h37 := @run_callFunc_extern Tryz.prog 200 _ (ReflectliteType.method ReflectliteType.elem) Tryz.func200 (by kernel_rfl) (by kernel_rfl) (by kernel_rfl) (by kernel_rfl)
  have h38 := @run_callFunc_extern Tryz.prog 201 _ (ReflectliteType.relation "Implements" ReflectliteType.implements_) Tryz.func201 (by kernel_rfl) (by kernel_rfl) (by kernel_rfl) (by kernel_rfl)
  have h10 := @run_callFunc_extern Tryz.prog 140 _ ReflectliteType.typeOf Tryz.func140 (by kernel_rfl) (by kernel_rfl) (by kernel_rfl) (by kernel_rfl)
  have h35 := @run_callFunc_extern Tryz.prog 198 _ (ReflectliteType.relation "AssignableTo" ReflectliteType.assignableTo) Tryz.func198 (by kernel_rfl) (by kernel_rfl) (by kernel_rfl) (by kernel_rfl)
  have h11 := @run_callFunc_extern Tryz.prog 141 _ (ReflectliteValue.method (ReflectliteValue.valueError "reflectlite.Value.Elem" 0) ReflectliteValue.elem) Tryz.func141 (by kernel_rfl) (by kernel_rfl) (by kernel_rfl) (by kernel_rfl)
  have h12 := @run_callFunc_extern Tryz.prog 142 _ ReflectliteValue.set Tryz.func142 (by kernel_rfl) (by kernel_rfl) (by kernel_rfl) (by kernel_rfl)
  have tO := typeOfF
  have mA := methodAssignableTo
  have a25 := assignableF
  have v25 := valueOfEF
  have f6 := valueOfF
  have f7 := typeF
  have mK := methodKind
  have mE := methodElem
  have mI := methodImplements
  have k27 := kindF
  have k25 := kindEF
  have e27 := elemF
  have i25 := implementsF
  have n8 := isNilF ⟨w.heap.size, 0, none⟩ t ((w.alloc (.cells #[.pointer (some t)] 165)).alloc (rv 165 ⟨w.heap.size, 0, none⟩)) (by simp)
  have hlt : 1 < w.heap.size := by
    rcases Nat.lt_or_ge 1 w.heap.size with h | h
    · exact h
    · simp [World.cell?, Array.getElem?_eq_none h] at hg
  have hg2 : ((w.alloc (.cells #[.pointer (some t)] 165)).alloc (rv 165 ⟨w.heap.size, 0, none⟩)).cell? ⟨1, 0, none⟩ = some (.iface 219 (.agg #[.pointer (some ⟨3, 127, none⟩)])) := by
    rw [World.cell?_alloc_lt _ _ ⟨1, 0, none⟩ (Nat.lt_of_lt_of_le hlt (by simp)), World.cell?_alloc_lt _ _ ⟨1, 0, none⟩ hlt]; exact hg
  have htl : t.block < w.heap.size := by
    rcases Nat.lt_or_ge t.block w.heap.size with h | h
    · exact h
    · simp [World.cell?, Array.getElem?_eq_none h] at ht0
  have el := elemVF ⟨w.heap.size, 0, none⟩ t ((((w.alloc (.cells #[.pointer (some t)] 165)).alloc (rv 165 ⟨w.heap.size, 0, none⟩)).alloc (rv 165 ⟨w.heap.size, 0, none⟩)).alloc (.cells #[.string what, .iface 163 (.agg #[.int .i64 c])] 190)) (by rw [World.cell?_alloc_lt _ _ ⟨w.heap.size, 0, none⟩ (by simp; omega), World.cell?_alloc_lt _ _ ⟨w.heap.size, 0, none⟩ (by simp; omega)]; simp)
  have st := setVF t ⟨w.heap.size + 1 + 1 + 1 + 1, 0, none⟩ c old (((((w.alloc (.cells #[.pointer (some t)] 165)).alloc (rv 165 ⟨w.heap.size, 0, none⟩)).alloc (rv 165 ⟨w.heap.size, 0, none⟩)).alloc (.cells #[.string what, .iface 163 (.agg #[.int .i64 c])] 190)).alloc (.cells #[.int .i64 c] 163))
    (by rw [World.cell?_alloc_at _ _ _ _ (by simp)]; rfl)
    (by rw [World.cell?_alloc_lt _ _ t (by simp; omega), World.cell?_alloc_lt _ _ t (by simp; omega), World.cell?_alloc_lt _ _ t (by simp; omega), World.cell?_alloc_lt _ _ t (by simp; omega), World.cell?_alloc_lt _ _ t htl]; exact ht0)
    (by rw [World.frozen?_alloc_old _ _ t (by simp; omega), World.frozen?_alloc_old _ _ t (by simp; omega), World.frozen?_alloc_old _ _ t (by simp; omega), World.frozen?_alloc_old _ _ t (by simp; omega), World.frozen?_alloc_old _ _ t (Nat.ne_of_lt htl)]; exact hf0)
  have tL := typeOfL
  have aL := assignL
  have nA := noAsL
  have hU := hasUnwrapL
  have mU := methodUnwrapL
  go_enter Tryz.func93, Tryz.ntmps93
  go_wp2
  refine wp_loop_rounds 2 ?_
  rw [rounds_succ]
  go_wp2
  rw [rounds_succ]
  go_wp2
  go_ret
  exact ⟨rfl, rfl⟩
end Go.Proofs.YtlhlmjkocmahmaaGreatDoor.Errs
/- journal.code and journal.wrapped. -/
namespace Go.Proofs.YtlhlmjkocmahmaaGreatDoor.Errs
open Go.Proofs Go.RowKit Go.Extern.Stop Go.Stop Go.Extern Go.Proofs.YtlhlmjkocmahmaaGreatDoorW.PrintWords Go.Proofs.YtlhlmjkocmahmaaGreatDoorW.PrintLast Go.Proofs.YtlhlmjkocmahmaaGreatDoorW.PrintMore Go.Proofs.YtlhlmjkocmahmaaGreatDoor.Dev Go.Proofs.YtlhlmjkocmahmaaGreatDoor.Sep
set_option linter.unusedVariables false
set_option linter.unusedSimpArgs false
/-- The library's handle on the type error, that errors.As reads. -/
def Rt (w : World) : Prop := w.cell? ⟨1, 0, none⟩ = some (.iface 219 (.agg #[.pointer (some ⟨3, 127, none⟩)]))
theorem rt_lt {w : World} (h : Rt w) : 1 < w.heap.size := by
  rcases Nat.lt_or_ge 1 w.heap.size with h1 | h1
  · exact h1
  · simp [Rt, World.cell?, Array.getElem?_eq_none h1] at h
theorem rt_sep {w0 w : World} {R : List Asn} (h : Rt w0) (S : Sep w0 w R) : Rt w := by
  have := S.bel.cell (p := ⟨1, 0, none⟩) (rt_lt h)
  unfold Rt at *
  rw [← h]
  exact this
/-- An error that wraps a number, with the word of what was done. -/
def lostV (what : ByteArray) (c : Int) : Value := .iface 190 (.agg #[.string what, .iface 163 (.agg #[.int .i64 c])])
/-- What wrapped answers. -/
def errV (what : ByteArray) (c : Int) : Value := if c = 0 then .nilIface else lostV what c
theorem wrapped_s {w0 w : World} {R : List Asn} (S : Sep w0 w R) (what : ByteArray) (c : Int) :
    Calls Tryz.prog 92 #[.string what, .int .i64 c] w fun e w' => e = .returned (errV what c) ∧ Sep w0 w' R := by
  by_cases hc : c = 0
  · subst hc
    go_enter Tryz.func92, Tryz.ntmps92
    go_wp2
    go_ret
    exact ⟨rfl, S⟩
  · have hb : (c == 0) = false := by simp [hc]
    have he : errV what c = lostV what c := by simp [errV, hc]
    rw [he]
    go_enter Tryz.func92, Tryz.ntmps92
    go_wp2
    go_ret
    exact ⟨rfl, S⟩
set_option maxHeartbeats 4000000 in
theorem code_s {w0 w : World} {R : List Asn} (hr : Rt w0) (S : Sep w0 w R) (what : ByteArray) (c : Int) :
    Calls Tryz.prog 64 #[errV what c] w fun e w' => e = .returned (.int .i64 c) ∧ Sep w0 w' R := by
  by_cases hc : c = 0
  · subst hc
    have he : errV what 0 = .nilIface := rfl
    rw [he]
    have S1 := S.alloc #[.int .i64 0] 163
    go_enter Tryz.func64, Tryz.ntmps64
    go_wp2_with (go_at_call 93; refine (as_nil _ _).mono ?_; rintro _ _ ⟨rfl, rfl⟩)
    go_ret
    exact ⟨rfl, S1.drop⟩
  · have he : errV what c = lostV what c := by simp [errV, hc]
    rw [he]
    have S1 := S.alloc #[.int .i64 0] 163
    have hc1 := S1.cell 0 (v := .int .i64 0) rfl
    have hf1 := S1.free 0
    have hA := as_lost what c ⟨w.heap.size, 0, none⟩ (.int .i64 0) _ (rt_sep hr S1) hc1 hf1
    have S2 := (((((S1.alloc #[.pointer (some ⟨w.heap.size, 0, none⟩)] 165).alloc #[.pointer (some ⟨3, 165, none⟩), .pointer (some ⟨(w.alloc (.cells #[.int .i64 0] 163)).heap.size, 0, none⟩), .int .u64 150] 194).alloc #[.pointer (some ⟨3, 165, none⟩), .pointer (some ⟨(w.alloc (.cells #[.int .i64 0] 163)).heap.size, 0, none⟩), .int .u64 150] 194).alloc #[.string what, .iface 163 (.agg #[.int .i64 c])] 190).alloc #[.int .i64 c] 163)
    have S3 : Sep w0 (asLost (w.alloc (.cells #[.int .i64 0] 163)) ⟨w.heap.size, 0, none⟩ what c) (Blk w.heap.size #[.int .i64 c] 163 :: R) := S2.drop.drop.drop.drop.drop.set 0 (.int .i64 c)
    have hc3 := S3.cell 0 (v := .int .i64 c) rfl
    clear S2 hf1 hc1
    go_enter Tryz.func64, Tryz.ntmps64
    go_wp2_with (go_at_call 93; refine hA.mono ?_; rintro _ _ ⟨rfl, rfl⟩)
    go_ret
    exact ⟨rfl, S3.drop⟩
end Go.Proofs.YtlhlmjkocmahmaaGreatDoor.Errs
/- errors.Is at a trouble and its sentinel. -/
namespace Go.Proofs.YtlhlmjkocmahmaaGreatDoor.Errs
open Go.Proofs Go.RowKit Go.Extern.Stop Go.Stop Go.Extern Go.Proofs.YtlhlmjkocmahmaaGreatDoorW.PrintWords Go.Proofs.YtlhlmjkocmahmaaGreatDoorW.PrintLast Go.Proofs.YtlhlmjkocmahmaaGreatDoorW.PrintMore Go.Proofs.YtlhlmjkocmahmaaGreatDoor.Dev Go.Proofs.YtlhlmjkocmahmaaGreatDoor.Sep
set_option linter.unusedVariables false
set_option linter.unusedSimpArgs false
theorem isTypeOf (v : Value) (w : World) : (ReflectliteType.typeOf #[.iface 263 v]).run Tryz.prog w = .ok (.iface 219 (.agg #[.pointer (some ⟨3, 263, none⟩)])) w := by kernel_rfl
theorem isComparable (w : World) : ((ReflectliteType.method fun t => do Rtype.noPackHeld "Comparable" t; (fun a => Value.bool a.comparable) <$> typeInfo t) #[.agg #[.pointer (some ⟨3, 263, none⟩)]]).run Tryz.prog w = .ok (.bool true) w := by kernel_rfl
theorem isComp : (Tryz.prog.info? 263).map (·.comparable) = some true := by kernel_rfl
theorem isSize : (Tryz.prog.info? 284).map (·.size) = some 1 := by kernel_rfl
theorem hasIsT (v : Value) (xT : TypeId) (w : World) : (Instr.typeAssert (.iface 247 v) xT 260 true).run Tryz.prog w = .ok (.tuple #[.iface 247 v, .bool true]) w := run_typeAssert_hasB Tryz.underlying260 (by kernel_rfl) v xT w
theorem methodIsT (v : Value) (w : World) : (Go.method 413 247 v "Is").run Tryz.prog w = .ok (209, v) w := by kernel_rfl
theorem eqlTE (c : Int) (a : Addr) (w : World) : (binOp BinOp.eql 127 (.iface 247 (.agg #[.int .i64 c])) (.iface 263 (.pointer (some a)))).run Tryz.prog w = .ok (.bool false) w := by kernel_rfl
/-- The sentinel in its variable. -/
def Sen (a : Addr) (w : World) : Prop := w.cell? ⟨2, 0, none⟩ = some (.iface 263 (.pointer (some a)))
set_option maxRecDepth 100000 in
set_option maxHeartbeats 4000000 in
theorem is_trouble (c : Int) (a : Addr) (w : World) (hs : Sen a w) :
    Calls Tryz.prog 162 #[.iface 247 (.agg #[.int .i64 c]), .iface 263 (.pointer (some a))] w fun e w' => e = .returned (.bool true) ∧ w' = w.alloc (.cells #[.int .i64 c] 247) := by
  obtain ⟨i, hi, hcmp⟩ := Option.map_eq_some_iff.1 isComp
  obtain ⟨j, hj, hjs⟩ := Option.map_eq_some_iff.1 isSize
  have h8 := @run_callFunc_extern Tryz.prog 140 _ ReflectliteType.typeOf Tryz.func140 (by kernel_rfl) (by kernel_rfl) (by kernel_rfl) (by kernel_rfl)
  have h32 := @run_callFunc_extern Tryz.prog 199 _ (ReflectliteType.method fun t => do Rtype.noPackHeld "Comparable" t; pure (.bool (← typeInfo t).comparable)) Tryz.func199 (by kernel_rfl) (by kernel_rfl) (by kernel_rfl) (by kernel_rfl)
  have tT := isTypeOf
  have cT := isComparable
  have mR := methodComparable
  have tI := hasIsT
  have mI := methodIsT
  have eT := eqlTE
  have hlt : 2 < w.heap.size := by
    rcases Nat.lt_or_ge 2 w.heap.size with h | h
    · exact h
    · simp [Sen, World.cell?, Array.getElem?_eq_none h] at hs
  have hs1 : w.cell? ⟨2, 0, none⟩ = some (.iface 263 (.pointer (some a))) := hs
  have hs2 : (w.alloc (.cells #[.int .i64 c] 247)).cell? ⟨2, 0, none⟩ = some (.iface 263 (.pointer (some a))) := by
    rw [World.cell?_alloc_lt _ _ ⟨2, 0, none⟩ hlt]; exact hs
  have heq := run_eql_iface_ptr_same (P := Tryz.prog) (w.alloc (.cells #[.int .i64 c] 247)) a Tryz.underlying127 Tryz.underlying263 hi hcmp hj
  have hgB : (w.alloc (.cells #[.int .i64 c] 247)).cell? ⟨2, 0, none⟩ = some (.iface 263 (.pointer (some a))) := hs2
  go_enter Tryz.func162, Tryz.ntmps162
  go_wp2
  refine wp_loop_rounds 1 ?_
  rw [rounds_succ]
  go_wp2
  go_ret
  exact ⟨rfl, rfl⟩
end Go.Proofs.YtlhlmjkocmahmaaGreatDoor.Errs
