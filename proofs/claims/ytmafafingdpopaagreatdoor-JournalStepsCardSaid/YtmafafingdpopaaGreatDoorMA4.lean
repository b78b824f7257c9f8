/- errors.As at the program's two small errors, told by Go's own text and the model's entries. -/
import Derived.Test.YtmafafingdpopaaGreatDoorMA2
import Derived.WalkKit
import Derived.LaidEql
import Derived.Stop.Asserts
import Derived.RowKitTokens
import Derived.Test.YtmafafingdpopaaGreatDoorMA3
namespace Go.Proofs.YtmafafingdpopaaGreatDoor.Errs
open Go.Proofs Go.RowKit Go.Extern.Stop Go.Stop Go.Extern Go.Proofs.YtmafafingdpopaaGreatDoorW.PrintWords Go.Proofs.YtmafafingdpopaaGreatDoorW.PrintLast Go.Proofs.YtmafafingdpopaaGreatDoorW.PrintMore Go.Proofs.YtmafafingdpopaaGreatDoor.Dev
set_option linter.unusedVariables false
set_option linter.unusedSimpArgs false
theorem as_nil (t : Value) (w : World) :
    Calls Tryz.prog 122 #[.nilIface, t] w fun e w' => e = .returned (.bool false) ∧ w' = w := by
  go_enter Tryz.func122, Tryz.ntmps122
  go_wp2
  go_ret
  exact ⟨rfl, rfl⟩
theorem rlm (z : Sem Value) (f : TypeId → Addr → Nat → Nat → Sem Value) (v : Value) :
    ReflectliteValue.method z f #[v] = (do match ← ReflectliteValue.parts v with | none => z | some (t, a, fl) => f t a fl (fl % 32)) := rfl
theorem rls (v x : Value) : ReflectliteValue.set #[v, x] = (do
    let (some (dst, a, fl), some (src, b, _)) := (← ReflectliteValue.parts v, ← ReflectliteValue.parts x)
      | unsupported (.noEntry "extern/(internal/reflectlite.Value).Set.zeroValue")
    if fl / ReflectliteValue.flagAddr % 2 == 0 then unsupported (.noEntry "extern/(internal/reflectlite.Value).Set.unaddressable")
    let val ← loadVar src b
    if ← Rtype.directlyAssignable dst src then storeVar dst a val
    else if ← Rtype.implements dst src then
      if (← Rtype.kind src) == 20 then
        match val with
        | .nilIface => unsupported (.noEntry "extern/reflectlite: a nil value of one interface type handed on as a value of another")
        | _ => storeVar dst a val
      else storeVar dst a (.iface src val)
    else panicString ("reflectlite.Set: value of type " ++ (← Rtype.spelt src) ++ " is not assignable to type " ++ (← Rtype.spelt dst))
    pure (.tuple #[])) := rfl
theorem valueOfF (t : Addr) (w : World) : (ReflectliteValue.unpack (.iface 180 (.pointer (some t)))).run Tryz.prog w
    = .ok (.agg #[.pointer (some ⟨2, 180, none⟩), .pointer (some ⟨w.heap.size, 0, none⟩), .int .u64 150]) (w.alloc (.cells #[.pointer (some t)] 180)) := by kernel_rfl
theorem typeF (a : Addr) (w : World) : (ReflectliteValue.methodAny (ReflectliteValue.valueError "reflectlite.Value.Type" 0) (fun t _ _ _ => ReflectliteType.toType t) #[.agg #[.pointer (some ⟨2, 180, none⟩), .pointer (some a), .int .u64 150]]).run Tryz.prog w
    = .ok (.iface 249 (.agg #[.pointer (some ⟨2, 180, none⟩)])) w := by kernel_rfl
theorem kindF (w : World) : ((ReflectliteType.abiMethod fun t => (fun a : Nat => Value.int IntKind.u8 (a : Int)) <$> Rtype.kind t) #[.pointer (some ⟨2, 180, none⟩)]).run Tryz.prog w = .ok (.int .u8 22) w := by kernel_rfl
theorem kindEF (w : World) : ((ReflectliteType.abiMethod fun t => (fun a : Nat => Value.int IntKind.u8 (a : Int)) <$> Rtype.kind t) #[.pointer (some ⟨2, 178, none⟩)]).run Tryz.prog w = .ok (.int .u8 25) w := by kernel_rfl
theorem partsF (a : Addr) (w : World) : (ReflectliteValue.parts (.agg #[.pointer (some ⟨2, 180, none⟩), .pointer (some a), .int .u64 150])).run Tryz.prog w = .ok (some (180, a, 150)) w := by kernel_rfl
theorem isNilF (a p : Addr) (W : World) (ha : W.cell? a = some (.pointer (some p))) :
    (ReflectliteValue.method (ReflectliteValue.valueError "reflectlite.Value.IsNil" 0) ReflectliteValue.isNil #[.agg #[.pointer (some ⟨2, 180, none⟩), .pointer (some a), .int .u64 150]]).run Tryz.prog W = .ok (.bool false) W := by
  rw [rlm]
  simp only [Sem.run_bind, partsF, Result.andThen]
  simp [ReflectliteValue.isNil, loadVar, isAgg, underlying, Tryz.underlying180, ha, Result.andThen]
theorem elemF (w : World) : (ReflectliteType.method ReflectliteType.elem #[.agg #[.pointer (some ⟨2, 180, none⟩)]]).run Tryz.prog w = .ok (.iface 249 (.agg #[.pointer (some ⟨2, 178, none⟩)])) w := by kernel_rfl
theorem implementsF (w : World) : (ReflectliteType.relation "Implements" ReflectliteType.implements_ #[.agg #[.pointer (some ⟨2, 178, none⟩)], .iface 249 (.agg #[.pointer (some ⟨2, 126, none⟩)])]).run Tryz.prog w = .ok (.bool true) w := by kernel_rfl
theorem typeOfF (v : Value) (w : World) : (ReflectliteType.typeOf #[.iface 178 v]).run Tryz.prog w = .ok (.iface 249 (.agg #[.pointer (some ⟨2, 178, none⟩)])) w := by kernel_rfl
theorem assignableF (w : World) : (ReflectliteType.relation "AssignableTo" ReflectliteType.assignableTo #[.agg #[.pointer (some ⟨2, 178, none⟩)], .iface 249 (.agg #[.pointer (some ⟨2, 178, none⟩)])]).run Tryz.prog w = .ok (.bool true) w := by kernel_rfl
theorem valueOfEF (c : Int) (w : World) : (ReflectliteValue.unpack (.iface 178 (.agg #[.int .i64 c]))).run Tryz.prog w
    = .ok (.agg #[.pointer (some ⟨2, 178, none⟩), .pointer (some ⟨w.heap.size, 0, none⟩), .int .u64 153]) (w.alloc (.cells #[.int .i64 c] 178)) := by kernel_rfl
theorem elemOfF (w : World) : (Rtype.elem? 180).run Tryz.prog w = .ok (some 178) w := by kernel_rfl
theorem mkEF (p : Addr) (w : World) : (ReflectliteValue.mk 178 p ReflectliteValue.flagAddr).run Tryz.prog w = .ok (.agg #[.pointer (some ⟨2, 178, none⟩), .pointer (some p), .int .u64 409]) w := by kernel_rfl
theorem elemVF (a p : Addr) (W : World) (ha : W.cell? a = some (.pointer (some p))) :
    (ReflectliteValue.method (ReflectliteValue.valueError "reflectlite.Value.Elem" 0) ReflectliteValue.elem #[.agg #[.pointer (some ⟨2, 180, none⟩), .pointer (some a), .int .u64 150]]).run Tryz.prog W
      = .ok (.agg #[.pointer (some ⟨2, 178, none⟩), .pointer (some p), .int .u64 409]) W := by
  rw [rlm]
  simp only [Sem.run_bind, partsF, Result.andThen]
  simp [ReflectliteValue.elem, loadVar, isAgg, underlying, Tryz.underlying180, ha, Result.andThen, elemOfF, mkEF]
theorem partsEaF (a : Addr) (w : World) : (ReflectliteValue.parts (.agg #[.pointer (some ⟨2, 178, none⟩), .pointer (some a), .int .u64 409])).run Tryz.prog w = .ok (some (178, a, 409)) w := by kernel_rfl
theorem partsEF (a : Addr) (w : World) : (ReflectliteValue.parts (.agg #[.pointer (some ⟨2, 178, none⟩), .pointer (some a), .int .u64 153])).run Tryz.prog w = .ok (some (178, a, 153)) w := by kernel_rfl
theorem directF (w : World) : (Rtype.directlyAssignable 178 178).run Tryz.prog w = .ok true w := by kernel_rfl

theorem valueOfT (t : Addr) (w : World) : (ReflectliteValue.unpack (.iface 285 (.pointer (some t)))).run Tryz.prog w
    = .ok (.agg #[.pointer (some ⟨2, 285, none⟩), .pointer (some ⟨w.heap.size, 0, none⟩), .int .u64 150]) (w.alloc (.cells #[.pointer (some t)] 285)) := by kernel_rfl
theorem typeT (a : Addr) (w : World) : (ReflectliteValue.methodAny (ReflectliteValue.valueError "reflectlite.Value.Type" 0) (fun t _ _ _ => ReflectliteType.toType t) #[.agg #[.pointer (some ⟨2, 285, none⟩), .pointer (some a), .int .u64 150]]).run Tryz.prog w
    = .ok (.iface 249 (.agg #[.pointer (some ⟨2, 285, none⟩)])) w := by kernel_rfl
theorem kindT (w : World) : ((ReflectliteType.abiMethod fun t => (fun a : Nat => Value.int IntKind.u8 (a : Int)) <$> Rtype.kind t) #[.pointer (some ⟨2, 285, none⟩)]).run Tryz.prog w = .ok (.int .u8 22) w := by kernel_rfl
theorem kindET (w : World) : ((ReflectliteType.abiMethod fun t => (fun a : Nat => Value.int IntKind.u8 (a : Int)) <$> Rtype.kind t) #[.pointer (some ⟨2, 283, none⟩)]).run Tryz.prog w = .ok (.int .u8 25) w := by kernel_rfl
theorem partsT (a : Addr) (w : World) : (ReflectliteValue.parts (.agg #[.pointer (some ⟨2, 285, none⟩), .pointer (some a), .int .u64 150])).run Tryz.prog w = .ok (some (285, a, 150)) w := by kernel_rfl
theorem isNilT (a p : Addr) (W : World) (ha : W.cell? a = some (.pointer (some p))) :
    (ReflectliteValue.method (ReflectliteValue.valueError "reflectlite.Value.IsNil" 0) ReflectliteValue.isNil #[.agg #[.pointer (some ⟨2, 285, none⟩), .pointer (some a), .int .u64 150]]).run Tryz.prog W = .ok (.bool false) W := by
  rw [rlm]
  simp only [Sem.run_bind, partsT, Result.andThen]
  simp [ReflectliteValue.isNil, loadVar, isAgg, underlying, Tryz.underlying285, ha, Result.andThen]
theorem elemT (w : World) : (ReflectliteType.method ReflectliteType.elem #[.agg #[.pointer (some ⟨2, 285, none⟩)]]).run Tryz.prog w = .ok (.iface 249 (.agg #[.pointer (some ⟨2, 283, none⟩)])) w := by kernel_rfl
theorem implementsT (w : World) : (ReflectliteType.relation "Implements" ReflectliteType.implements_ #[.agg #[.pointer (some ⟨2, 283, none⟩)], .iface 249 (.agg #[.pointer (some ⟨2, 126, none⟩)])]).run Tryz.prog w = .ok (.bool true) w := by kernel_rfl
theorem typeOfT (v : Value) (w : World) : (ReflectliteType.typeOf #[.iface 283 v]).run Tryz.prog w = .ok (.iface 249 (.agg #[.pointer (some ⟨2, 283, none⟩)])) w := by kernel_rfl
theorem assignableT (w : World) : (ReflectliteType.relation "AssignableTo" ReflectliteType.assignableTo #[.agg #[.pointer (some ⟨2, 283, none⟩)], .iface 249 (.agg #[.pointer (some ⟨2, 283, none⟩)])]).run Tryz.prog w = .ok (.bool true) w := by kernel_rfl
theorem valueOfET (c : Int) (w : World) : (ReflectliteValue.unpack (.iface 283 (.agg #[.int .i64 c]))).run Tryz.prog w
    = .ok (.agg #[.pointer (some ⟨2, 283, none⟩), .pointer (some ⟨w.heap.size, 0, none⟩), .int .u64 153]) (w.alloc (.cells #[.int .i64 c] 283)) := by kernel_rfl
theorem elemOfT (w : World) : (Rtype.elem? 285).run Tryz.prog w = .ok (some 283) w := by kernel_rfl
theorem mkET (p : Addr) (w : World) : (ReflectliteValue.mk 283 p ReflectliteValue.flagAddr).run Tryz.prog w = .ok (.agg #[.pointer (some ⟨2, 283, none⟩), .pointer (some p), .int .u64 409]) w := by kernel_rfl
theorem elemVT (a p : Addr) (W : World) (ha : W.cell? a = some (.pointer (some p))) :
    (ReflectliteValue.method (ReflectliteValue.valueError "reflectlite.Value.Elem" 0) ReflectliteValue.elem #[.agg #[.pointer (some ⟨2, 285, none⟩), .pointer (some a), .int .u64 150]]).run Tryz.prog W
      = .ok (.agg #[.pointer (some ⟨2, 283, none⟩), .pointer (some p), .int .u64 409]) W := by
  rw [rlm]
  simp only [Sem.run_bind, partsT, Result.andThen]
  simp [ReflectliteValue.elem, loadVar, isAgg, underlying, Tryz.underlying285, ha, Result.andThen, elemOfT, mkET]
theorem partsEaT (a : Addr) (w : World) : (ReflectliteValue.parts (.agg #[.pointer (some ⟨2, 283, none⟩), .pointer (some a), .int .u64 409])).run Tryz.prog w = .ok (some (283, a, 409)) w := by kernel_rfl
theorem partsET (a : Addr) (w : World) : (ReflectliteValue.parts (.agg #[.pointer (some ⟨2, 283, none⟩), .pointer (some a), .int .u64 153])).run Tryz.prog w = .ok (some (283, a, 153)) w := by kernel_rfl
theorem directT (w : World) : (Rtype.directlyAssignable 283 283).run Tryz.prog w = .ok true w := by kernel_rfl

end Go.Proofs.YtmafafingdpopaaGreatDoor.Errs
/- errors.As at the program's two small errors: the walk. -/
namespace Go.Proofs.YtmafafingdpopaaGreatDoor.Errs
open Go.Proofs Go.RowKit Go.Extern.Stop Go.Stop Go.Extern Go.Proofs.YtmafafingdpopaaGreatDoorW.PrintWords Go.Proofs.YtmafafingdpopaaGreatDoorW.PrintLast Go.Proofs.YtmafafingdpopaaGreatDoorW.PrintMore Go.Proofs.YtmafafingdpopaaGreatDoor.Dev
set_option linter.unusedVariables false
set_option linter.unusedSimpArgs false
theorem sizeF (w : World) : (sizeOf 178).run Tryz.prog w = .ok 1 w := by kernel_rfl
theorem isAggF (w : World) : (isAgg 178).run Tryz.prog w = .ok true w := by kernel_rfl
theorem loadF (b : Addr) (c : Int) (W : World) (hb : W.cell? b = some (.int .i64 c)) : (loadVar 178 b).run Tryz.prog W = .ok (.agg #[.int .i64 c]) W := by
  unfold loadVar
  simp only [Sem.run_bind, isAggF, sizeF, Result.andThen, if_true]
  simp [loadCells, loadCellsFrom, Addr.add, hb, Result.andThen]
theorem setVF (ta b : Addr) (c : Int) (old : Value) (W : World) (hb : W.cell? b = some (.int .i64 c)) (ht : W.cell? ta = some old) (hf : W.frozen? ta = false) :
    (ReflectliteValue.set #[.agg #[.pointer (some ⟨2, 178, none⟩), .pointer (some ta), .int .u64 409], .agg #[.pointer (some ⟨2, 178, none⟩), .pointer (some b), .int .u64 153]]).run Tryz.prog W
      = .ok (.tuple #[]) (W.setCell ta (.int .i64 c)) := by
  rw [rls]
  simp only [Sem.run_bind, partsEaF, partsEF, Result.andThen]
  simp only [ReflectliteValue.flagAddr, loadF b c W hb, Result.andThen, directF]
  simp [Result.andThen, directF, loadF b c W hb, storeVar, sizeF, Value.cells, storeCells, Addr.add]
  rw [run_store Tryz.prog W ta _ _ (by rfl)]
  simp [ht, hf]

theorem sizeT (w : World) : (sizeOf 283).run Tryz.prog w = .ok 1 w := by kernel_rfl
theorem isAggT (w : World) : (isAgg 283).run Tryz.prog w = .ok true w := by kernel_rfl
theorem loadT (b : Addr) (c : Int) (W : World) (hb : W.cell? b = some (.int .i64 c)) : (loadVar 283 b).run Tryz.prog W = .ok (.agg #[.int .i64 c]) W := by
  unfold loadVar
  simp only [Sem.run_bind, isAggT, sizeT, Result.andThen, if_true]
  simp [loadCells, loadCellsFrom, Addr.add, hb, Result.andThen]
theorem setVT (ta b : Addr) (c : Int) (old : Value) (W : World) (hb : W.cell? b = some (.int .i64 c)) (ht : W.cell? ta = some old) (hf : W.frozen? ta = false) :
    (ReflectliteValue.set #[.agg #[.pointer (some ⟨2, 283, none⟩), .pointer (some ta), .int .u64 409], .agg #[.pointer (some ⟨2, 283, none⟩), .pointer (some b), .int .u64 153]]).run Tryz.prog W
      = .ok (.tuple #[]) (W.setCell ta (.int .i64 c)) := by
  rw [rls]
  simp only [Sem.run_bind, partsEaT, partsET, Result.andThen]
  simp only [ReflectliteValue.flagAddr, loadT b c W hb, Result.andThen, directT]
  simp [Result.andThen, directT, loadT b c W hb, storeVar, sizeT, Value.cells, storeCells, Addr.add]
  rw [run_store Tryz.prog W ta _ _ (by rfl)]
  simp [ht, hf]

theorem methodKind (h : Value) (w : World) : (Go.method 430 249 (.agg #[h]) "Kind").run Tryz.prog w = .ok (246, h) w := by kernel_rfl
theorem methodElem (h : Value) (w : World) : (Go.method 430 249 (.agg #[h]) "Elem").run Tryz.prog w = .ok (260, .agg #[h]) w := by kernel_rfl
theorem methodImplements (h : Value) (w : World) : (Go.method 430 249 (.agg #[h]) "Implements").run Tryz.prog w = .ok (261, .agg #[h]) w := by kernel_rfl
theorem methodAssignableTo (h : Value) (w : World) : (Go.method 430 249 (.agg #[h]) "AssignableTo").run Tryz.prog w = .ok (258, .agg #[h]) w := by kernel_rfl
theorem methodComparable (h : Value) (w : World) : (Go.method 430 249 (.agg #[h]) "Comparable").run Tryz.prog w = .ok (259, .agg #[h]) w := by kernel_rfl
/-- What a Value is, as a block. -/
abbrev rv (T : TypeId) (a : Addr) : Obj := .cells #[.pointer (some ⟨2, T, none⟩), .pointer (some a), .int .u64 150] 219
/-- What errors.As leaves: four blocks, and the target set. -/
def asWorldF (w : World) (t : Addr) (c : Int) : World :=
  ((((w.alloc (.cells #[.pointer (some t)] 180)).alloc (rv 180 ⟨w.heap.size, 0, none⟩)).alloc (rv 180 ⟨w.heap.size, 0, none⟩)).alloc (.cells #[.int .i64 c] 178)).setCell t (.int .i64 c)
set_option maxRecDepth 100000 in
set_option maxHeartbeats 4000000 in
theorem as_hitF (c : Int) (t : Addr) (old : Value) (w : World) (hg : w.cell? ⟨0, 0, none⟩ = some (.iface 249 (.agg #[.pointer (some ⟨2, 126, none⟩)]))) (ht0 : w.cell? t = some old) (hf0 : w.frozen? t = false) :
    Calls Tryz.prog 122 #[.iface 178 (.agg #[.int .i64 c]), .iface 180 (.pointer (some t))] w fun ev w' => ev = .returned (.bool true) ∧ w' = asWorldF w t c := by
  have h6 := @run_callFunc_extern Tryz.prog 158 _ (fun args => ReflectliteValue.unpack (args.getD 0 (.tuple #[]))) Tryz.func158 (by kernel_rfl) (by kernel_rfl) (by kernel_rfl) (by kernel_rfl)
  have h7 := @run_callFunc_extern Tryz.prog 159 _ (ReflectliteValue.methodAny (ReflectliteValue.valueError "reflectlite.Value.Type" 0) (fun t _ _ _ => ReflectliteType.toType t)) Tryz.func159 (by kernel_rfl) (by kernel_rfl) (by kernel_rfl) (by kernel_rfl)
  have h8 := @run_callFunc_extern Tryz.prog 160 _ (ReflectliteValue.method (ReflectliteValue.valueError "reflectlite.Value.IsNil" 0) ReflectliteValue.isNil) Tryz.func160 (by kernel_rfl) (by kernel_rfl) (by kernel_rfl) (by kernel_rfl)
  have h27 := @run_callFunc_extern Tryz.prog 246 _ (ReflectliteType.abiMethod fun t => do pure (.int .u8 (← Rtype.kind t))) Tryz.func246 (by kernel_rfl) (by kernel_rfl) (by kernel_rfl) (by kernel_rfl)
  have h37 := @run_callFunc_extern Tryz.prog 260 _ (ReflectliteType.method ReflectliteType.elem) Tryz.func260 (by kernel_rfl) (by kernel_rfl) (by kernel_rfl) (by kernel_rfl)
  have h38 := @run_callFunc_extern Tryz.prog 261 _ (ReflectliteType.relation "Implements" ReflectliteType.implements_) Tryz.func261 (by kernel_rfl) (by kernel_rfl) (by kernel_rfl) (by kernel_rfl)
  have h10 := @run_callFunc_extern Tryz.prog 196 _ ReflectliteType.typeOf Tryz.func196 (by kernel_rfl) (by kernel_rfl) (by kernel_rfl) (by kernel_rfl)
  have h35 := @run_callFunc_extern Tryz.prog 258 _ (ReflectliteType.relation "AssignableTo" ReflectliteType.assignableTo) Tryz.func258 (by kernel_rfl) (by kernel_rfl) (by kernel_rfl) (by kernel_rfl)
  have h11 := @run_callFunc_extern Tryz.prog 197 _ (ReflectliteValue.method (ReflectliteValue.valueError "reflectlite.Value.Elem" 0) ReflectliteValue.elem) Tryz.func197 (by kernel_rfl) (by kernel_rfl) (by kernel_rfl) (by kernel_rfl)
  have h12 := @run_callFunc_extern Tryz.prog 198 _ ReflectliteValue.set Tryz.func198 (by kernel_rfl) (by kernel_rfl) (by kernel_rfl) (by kernel_rfl)
  have tO := typeOfF
  have mA := methodAssignableTo
  have a25 := assignableF
  have v25 := valueOfEF
  have f6 := valueOfF
  have f7 := typeF
  have mK := methodKind
  have mE := methodElem
  have mI := methodImplements
  have k27 := kindF
  have k25 := kindEF
  have e27 := elemF
  have i25 := implementsF
  have n8 := isNilF ⟨w.heap.size, 0, none⟩ t ((w.alloc (.cells #[.pointer (some t)] 180)).alloc (rv 180 ⟨w.heap.size, 0, none⟩)) (by simp)
  have hlt : 0 < w.heap.size := by
    rcases Nat.eq_zero_or_pos w.heap.size with h0 | h
    · simp [World.cell?, h0] at hg
    · exact h
  have hg2 : ((w.alloc (.cells #[.pointer (some t)] 180)).alloc (rv 180 ⟨w.heap.size, 0, none⟩)).cell? ⟨0, 0, none⟩ = some (.iface 249 (.agg #[.pointer (some ⟨2, 126, none⟩)])) := by
    rw [World.cell?_alloc_lt _ _ ⟨0, 0, none⟩ (by simp), World.cell?_alloc_lt _ _ ⟨0, 0, none⟩ hlt]; exact hg
  have htl : t.block < w.heap.size := by
    rcases Nat.lt_or_ge t.block w.heap.size with h | h
    · exact h
    · simp [World.cell?, Array.getElem?_eq_none h] at ht0
  have el := elemVF ⟨w.heap.size, 0, none⟩ t (((w.alloc (.cells #[.pointer (some t)] 180)).alloc (rv 180 ⟨w.heap.size, 0, none⟩)).alloc (rv 180 ⟨w.heap.size, 0, none⟩)) (by rw [World.cell?_alloc_lt _ _ ⟨w.heap.size, 0, none⟩ (by simp; omega)]; simp)
  have st := setVF t ⟨w.heap.size + 1 + 1 + 1, 0, none⟩ c old ((((w.alloc (.cells #[.pointer (some t)] 180)).alloc (rv 180 ⟨w.heap.size, 0, none⟩)).alloc (rv 180 ⟨w.heap.size, 0, none⟩)).alloc (.cells #[.int .i64 c] 178))
    (by rw [World.cell?_alloc_at _ _ _ _ (by simp)]; rfl)
    (by rw [World.cell?_alloc_lt _ _ t (by simp; omega), World.cell?_alloc_lt _ _ t (by simp; omega), World.cell?_alloc_lt _ _ t (by simp; omega), World.cell?_alloc_lt _ _ t htl]; exact ht0)
    (by rw [World.frozen?_alloc_old _ _ t (by simp; omega), World.frozen?_alloc_old _ _ t (by simp; omega), World.frozen?_alloc_old _ _ t (by simp; omega), World.frozen?_alloc_old _ _ t (Nat.ne_of_lt htl)]; exact hf0)
  go_enter Tryz.func122, Tryz.ntmps122
  go_wp2
  refine wp_loop_rounds 1 ?_
  rw [rounds_succ]
  go_wp2
  go_ret
  exact ⟨rfl, rfl⟩

/-- What errors.As leaves: four blocks, and the target set. -/
def asWorldT (w : World) (t : Addr) (c : Int) : World :=
  ((((w.alloc (.cells #[.pointer (some t)] 285)).alloc (rv 285 ⟨w.heap.size, 0, none⟩)).alloc (rv 285 ⟨w.heap.size, 0, none⟩)).alloc (.cells #[.int .i64 c] 283)).setCell t (.int .i64 c)
set_option maxRecDepth 100000 in
set_option maxHeartbeats 4000000 in
theorem as_hitT (c : Int) (t : Addr) (old : Value) (w : World) (hg : w.cell? ⟨0, 0, none⟩ = some (.iface 249 (.agg #[.pointer (some ⟨2, 126, none⟩)]))) (ht0 : w.cell? t = some old) (hf0 : w.frozen? t = false) :
    Calls Tryz.prog 122 #[.iface 283 (.agg #[.int .i64 c]), .iface 285 (.pointer (some t))] w fun ev w' => ev = .returned (.bool true) ∧ w' = asWorldT w t c := by
  have h6 := @run_callFunc_extern Tryz.prog 158 _ (fun args => ReflectliteValue.unpack (args.getD 0 (.tuple #[]))) Tryz.func158 (by kernel_rfl) (by kernel_rfl) (by kernel_rfl) (by kernel_rfl)
  have h7 := @run_callFunc_extern Tryz.prog 159 _ (ReflectliteValue.methodAny (ReflectliteValue.valueError "reflectlite.Value.Type" 0) (fun t _ _ _ => ReflectliteType.toType t)) Tryz.func159 (by kernel_rfl) (by kernel_rfl) (by kernel_rfl) (by kernel_rfl)
  have h8 := @run_callFunc_extern Tryz.prog 160 _ (ReflectliteValue.method (ReflectliteValue.valueError "reflectlite.Value.IsNil" 0) ReflectliteValue.isNil) Tryz.func160 (by kernel_rfl) (by kernel_rfl) (by kernel_rfl) (by kernel_rfl)
  have h27 := @run_callFunc_extern Tryz.prog 246 _ (ReflectliteType.abiMethod fun t => do pure (.int .u8 (← Rtype.kind t))) Tryz.func246 (by kernel_rfl) (by kernel_rfl) (by kernel_rfl) (by kernel_rfl)
  have h37 := @run_callFunc_extern Tryz.prog 260 _ (ReflectliteType.method ReflectliteType.elem) Tryz.func260 (by kernel_rfl) (by kernel_rfl) (by kernel_rfl) (by kernel_rfl)
  have h38 := @run_callFunc_extern Tryz.prog 261 _ (ReflectliteType.relation "Implements" ReflectliteType.implements_) Tryz.func261 (by kernel_rfl) (by kernel_rfl) (by kernel_rfl) (by kernel_rfl)
  have h10 := @run_callFunc_extern Tryz.prog 196 _ ReflectliteType.typeOf Tryz.func196 (by kernel_rfl) (by kernel_rfl) (by kernel_rfl) (by kernel_rfl)
  have h35 := @run_callFunc_extern Tryz.prog 258 _ (ReflectliteType.relation "AssignableTo" ReflectliteType.assignableTo) Tryz.func258 (by kernel_rfl) (by kernel_rfl) (by kernel_rfl) (by kernel_rfl)
  have h11 := @run_callFunc_extern Tryz.prog 197 _ (ReflectliteValue.method (ReflectliteValue.valueError "reflectlite.Value.Elem" 0) ReflectliteValue.elem) Tryz.func197 (by kernel_rfl) (by kernel_rfl) (by kernel_rfl) (by kernel_rfl)
  have h12 := @run_callFunc_extern Tryz.prog 198 _ ReflectliteValue.set Tryz.func198 (by kernel_rfl) (by kernel_rfl) (by kernel_rfl) (by kernel_rfl)
  have tO := typeOfT
  have mA := methodAssignableTo
  have a25 := assignableT
  have v25 := valueOfET
  have f6 := valueOfT
  have f7 := typeT
  have mK := methodKind
  have mE := methodElem
  have mI := methodImplements
  have k27 := kindT
  have k25 := kindET
  have e27 := elemT
  have i25 := implementsT
  have n8 := isNilT ⟨w.heap.size, 0, none⟩ t ((w.alloc (.cells #[.pointer (some t)] 285)).alloc (rv 285 ⟨w.heap.size, 0, none⟩)) (by simp)
  have hlt : 0 < w.heap.size := by
    rcases Nat.eq_zero_or_pos w.heap.size with h0 | h
    · simp [World.cell?, h0] at hg
    · exact h
  have hg2 : ((w.alloc (.cells #[.pointer (some t)] 285)).alloc (rv 285 ⟨w.heap.size, 0, none⟩)).cell? ⟨0, 0, none⟩ = some (.iface 249 (.agg #[.pointer (some ⟨2, 126, none⟩)])) := by
    rw [World.cell?_alloc_lt _ _ ⟨0, 0, none⟩ (by simp), World.cell?_alloc_lt _ _ ⟨0, 0, none⟩ hlt]; exact hg
  have htl : t.block < w.heap.size := by
    rcases Nat.lt_or_ge t.block w.heap.size with h | h
    · exact h
    · simp [World.cell?, Array.getElem?_eq_none h] at ht0
  have el := elemVT ⟨w.heap.size, 0, none⟩ t (((w.alloc (.cells #[.pointer (some t)] 285)).alloc (rv 285 ⟨w.heap.size, 0, none⟩)).alloc (rv 285 ⟨w.heap.size, 0, none⟩)) (by rw [World.cell?_alloc_lt _ _ ⟨w.heap.size, 0, none⟩ (by simp; omega)]; simp)
  have st := setVT t ⟨w.heap.size + 1 + 1 + 1, 0, none⟩ c old ((((w.alloc (.cells #[.pointer (some t)] 285)).alloc (rv 285 ⟨w.heap.size, 0, none⟩)).alloc (rv 285 ⟨w.heap.size, 0, none⟩)).alloc (.cells #[.int .i64 c] 283))
    (by rw [World.cell?_alloc_at _ _ _ _ (by simp)]; rfl)
    (by rw [World.cell?_alloc_lt _ _ t (by simp; omega), World.cell?_alloc_lt _ _ t (by simp; omega), World.cell?_alloc_lt _ _ t (by simp; omega), World.cell?_alloc_lt _ _ t htl]; exact ht0)
    (by rw [World.frozen?_alloc_old _ _ t (by simp; omega), World.frozen?_alloc_old _ _ t (by simp; omega), World.frozen?_alloc_old _ _ t (by simp; omega), World.frozen?_alloc_old _ _ t (Nat.ne_of_lt htl)]; exact hf0)
  go_enter Tryz.func122, Tryz.ntmps122
  go_wp2
  refine wp_loop_rounds 1 ?_
  rw [rounds_succ]
  go_wp2
  go_ret
  exact ⟨rfl, rfl⟩

end Go.Proofs.YtmafafingdpopaaGreatDoor.Errs
/- errors.As through 'lost', and journal.code. -/
namespace Go.Proofs.YtmafafingdpopaaGreatDoor.Errs
open Go.Proofs Go.RowKit Go.Extern.Stop Go.Stop Go.Extern Go.Proofs.YtmafafingdpopaaGreatDoorW.PrintWords Go.Proofs.YtmafafingdpopaaGreatDoorW.PrintLast Go.Proofs.YtmafafingdpopaaGreatDoorW.PrintMore Go.Proofs.YtmafafingdpopaaGreatDoor.Dev
set_option linter.unusedVariables false
set_option linter.unusedSimpArgs false
theorem typeOfL (v : Value) (w : World) : (ReflectliteType.typeOf #[.iface 215 v]).run Tryz.prog w = .ok (.iface 249 (.agg #[.pointer (some ⟨2, 215, none⟩)])) w := by kernel_rfl
theorem assignL (w : World) : (ReflectliteType.relation "AssignableTo" ReflectliteType.assignableTo #[.agg #[.pointer (some ⟨2, 215, none⟩)], .iface 249 (.agg #[.pointer (some ⟨2, 178, none⟩)])]).run Tryz.prog w = .ok (.bool false) w := by kernel_rfl
theorem noAsL (v : Value) (xT : TypeId) (w : World) : (Instr.typeAssert (.iface 215 v) xT 254 true).run Tryz.prog w = .ok (.tuple #[.nilIface, .bool false]) w := run_typeAssert_lacksB Tryz.underlying254 (by kernel_rfl) (by kernel_rfl) v xT w
theorem hasUnwrapL (v : Value) (xT : TypeId) (w : World) : (Instr.typeAssert (.iface 215 v) xT 257 true).run Tryz.prog w = .ok (.tuple #[.iface 215 v, .bool true]) w := run_typeAssert_hasB Tryz.underlying257 (by kernel_rfl) v xT w
theorem methodUnwrapL (v : Value) (w : World) : (Go.method 430 215 v "Unwrap").run Tryz.prog w = .ok (252, v) w := by kernel_rfl
def asLost (w : World) (t : Addr) (what : ByteArray) (c : Int) : World :=
  (((((w.alloc (.cells #[.pointer (some t)] 180)).alloc (rv 180 ⟨w.heap.size, 0, none⟩)).alloc (rv 180 ⟨w.heap.size, 0, none⟩)).alloc (.cells #[.string what, .iface 178 (.agg #[.int .i64 c])] 215)).alloc (.cells #[.int .i64 c] 178)).setCell t (.int .i64 c)
set_option maxRecDepth 100000 in
set_option maxHeartbeats 4000000 in
theorem as_lost (what : ByteArray) (c : Int) (t : Addr) (old : Value) (w : World) (hg : w.cell? ⟨0, 0, none⟩ = some (.iface 249 (.agg #[.pointer (some ⟨2, 126, none⟩)]))) (ht0 : w.cell? t = some old) (hf0 : w.frozen? t = false) :
    Calls Tryz.prog 122 #[.iface 215 (.agg #[.string what, .iface 178 (.agg #[.int .i64 c])]), .iface 180 (.pointer (some t))] w fun ev w' => ev = .returned (.bool true) ∧ w' = asLost w t what c := by
  have h6 := @run_callFunc_extern Tryz.prog 158 _ (fun args => ReflectliteValue.unpack (args.getD 0 (.tuple #[]))) Tryz.func158 (by kernel_rfl) (by kernel_rfl) (by kernel_rfl) (by kernel_rfl)
  have h7 := @run_callFunc_extern Tryz.prog 159 _ (ReflectliteValue.methodAny (ReflectliteValue.valueError "reflectlite.Value.Type" 0) (fun t _ _ _ => ReflectliteType.toType t)) Tryz.func159 (by kernel_rfl) (by kernel_rfl) (by kernel_rfl) (by kernel_rfl)
  have h8 := @run_callFunc_extern Tryz.prog 160 _ (ReflectliteValue.method (ReflectliteValue.valueError "reflectlite.Value.IsNil" 0) ReflectliteValue.isNil) Tryz.func160 (by kernel_rfl) (by kernel_rfl) (by kernel_rfl) (by kernel_rfl)
  have h27 := @run_callFunc_extern Tryz.prog 246 _ (ReflectliteType.abiMethod fun t => do pure (.int .u8 (← Rtype.kind t))) Tryz.func246 (by kernel_rfl) (by kernel_rfl) (by kernel_rfl) (by kernel_rfl)
  have h37 := @run_callFunc_extern Tryz.prog 260 _ (ReflectliteType.method ReflectliteType.elem) Tryz.func260 (by kernel_rfl) (by kernel_rfl) (by kernel_rfl) (by kernel_rfl)
  have h38 := @run_callFunc_extern Tryz.prog 261 _ (ReflectliteType.relation "Implements" ReflectliteType.implements_) Tryz.func261 (by kernel_rfl) (by kernel_rfl) (by kernel_rfl) (by kernel_rfl)
  have h10 := @run_callFunc_extern Tryz.prog 196 _ ReflectliteType.typeOf Tryz.func196 (by kernel_rfl) (by kernel_rfl) (by kernel_rfl) (by kernel_rfl)
  have h35 := @run_callFunc_extern Tryz.prog 258 _ (ReflectliteType.relation "AssignableTo" ReflectliteType.assignableTo) Tryz.func258 (by kernel_rfl) (by kernel_rfl) (by kernel_rfl) (by kernel_rfl)
  have h11 := @run_callFunc_extern Tryz.prog 197 _ (ReflectliteValue.method (ReflectliteValue.valueError "reflectlite.Value.Elem" 0) ReflectliteValue.elem) Tryz.func197 (by kernel_rfl) (by kernel_rfl) (by kernel_rfl) (by kernel_rfl)
  have h12 := @run_callFunc_extern Tryz.prog 198 _ ReflectliteValue.set Tryz.func198 (by kernel_rfl) (by kernel_rfl) (by kernel_rfl) (by kernel_rfl)
  have tO := typeOfF
  have mA := methodAssignableTo
  have a25 := assignableF
  have v25 := valueOfEF
  have f6 := valueOfF
  have f7 := typeF
  have mK := methodKind
  have mE := methodElem
  have mI := methodImplements
  have k27 := kindF
  have k25 := kindEF
  have e27 := elemF
  have i25 := implementsF
  have n8 := isNilF ⟨w.heap.size, 0, none⟩ t ((w.alloc (.cells #[.pointer (some t)] 180)).alloc (rv 180 ⟨w.heap.size, 0, none⟩)) (by simp)
  have hlt : 0 < w.heap.size := by
    rcases Nat.eq_zero_or_pos w.heap.size with h0 | h
    · simp [World.cell?, h0] at hg
    · exact h
  have hg2 : ((w.alloc (.cells #[.pointer (some t)] 180)).alloc (rv 180 ⟨w.heap.size, 0, none⟩)).cell? ⟨0, 0, none⟩ = some (.iface 249 (.agg #[.pointer (some ⟨2, 126, none⟩)])) := by
    rw [World.cell?_alloc_lt _ _ ⟨0, 0, none⟩ (by simp), World.cell?_alloc_lt _ _ ⟨0, 0, none⟩ hlt]; exact hg
  have htl : t.block < w.heap.size := by
    rcases Nat.lt_or_ge t.block w.heap.size with h | h
    · exact h
    · simp [World.cell?, Array.getElem?_eq_none h] at ht0
  have el := elemVF ⟨w.heap.size, 0, none⟩ t ((((w.alloc (.cells #[.pointer (some t)] 180)).alloc (rv 180 ⟨w.heap.size, 0, none⟩)).alloc (rv 180 ⟨w.heap.size, 0, none⟩)).alloc (.cells #[.string what, .iface 178 (.agg #[.int .i64 c])] 215)) (by rw [World.cell?_alloc_lt _ _ ⟨w.heap.size, 0, none⟩ (by simp; omega), World.cell?_alloc_lt _ _ ⟨w.heap.size, 0, none⟩ (by simp; omega)]; simp)
  have st := setVF t ⟨w.heap.size + 1 + 1 + 1 + 1, 0, none⟩ c old (((((w.alloc (.cells #[.pointer (some t)] 180)).alloc (rv 180 ⟨w.heap.size, 0, none⟩)).alloc (rv 180 ⟨w.heap.size, 0, none⟩)).alloc (.cells #[.string what, .iface 178 (.agg #[.int .i64 c])] 215)).alloc (.cells #[.int .i64 c] 178))
    (by rw [World.cell?_alloc_at _ _ _ _ (by simp)]; rfl)
    (by rw [World.cell?_alloc_lt _ _ t (by simp; omega), World.cell?_alloc_lt _ _ t (by simp; omega), World.cell?_alloc_lt _ _ t (by simp; omega), World.cell?_alloc_lt _ _ t (by simp; omega), World.cell?_alloc_lt _ _ t htl]; exact ht0)
    (by rw [World.frozen?_alloc_old _ _ t (by simp; omega), World.frozen?_alloc_old _ _ t (by simp; omega), World.frozen?_alloc_old _ _ t (by simp; omega), World.frozen?_alloc_old _ _ t (by simp; omega), World.frozen?_alloc_old _ _ t (Nat.ne_of_lt htl)]; exact hf0)
  have tL := typeOfL
  have aL := assignL
  have nA := noAsL
  have hU := hasUnwrapL
  have mU := methodUnwrapL
  go_enter Tryz.func122, Tryz.ntmps122
  go_wp2
  refine wp_loop_rounds 2 ?_
  rw [rounds_succ]
  go_wp2
  rw [rounds_succ]
  go_wp2
  go_ret
  exact ⟨rfl, rfl⟩
end Go.Proofs.YtmafafingdpopaaGreatDoor.Errs
/- journal.code and journal.wrapped. -/
namespace Go.Proofs.YtmafafingdpopaaGreatDoor.Errs
open Go.Proofs Go.RowKit Go.Extern.Stop Go.Stop Go.Extern Go.Proofs.YtmafafingdpopaaGreatDoorW.PrintWords Go.Proofs.YtmafafingdpopaaGreatDoorW.PrintLast Go.Proofs.YtmafafingdpopaaGreatDoorW.PrintMore Go.Proofs.YtmafafingdpopaaGreatDoor.Dev Go.Proofs.YtmafafingdpopaaGreatDoor.Sep
set_option linter.unusedVariables false
set_option linter.unusedSimpArgs false
/-- The library's handle on the type error, that errors.As reads. -/
def Rt (w : World) : Prop := w.cell? ⟨0, 0, none⟩ = some (.iface 249 (.agg #[.pointer (some ⟨2, 126, none⟩)]))
theorem rt_lt {w : World} (h : Rt w) : 0 < w.heap.size := by
  rcases Nat.eq_zero_or_pos w.heap.size with h0 | h1
  · simp [Rt, World.cell?, h0] at h
  · exact h1
theorem rt_sep {w0 w : World} {R : List Asn} (h : Rt w0) (S : Sep w0 w R) : Rt w := by
  have := S.bel.cell (p := ⟨0, 0, none⟩) (rt_lt h)
  unfold Rt at *
  rw [← h]
  exact this
/-- An error that wraps a number, with the word of what was done. -/
def lostV (what : ByteArray) (c : Int) : Value := .iface 215 (.agg #[.string what, .iface 178 (.agg #[.int .i64 c])])
/-- What wrapped answers. -/
def errV (what : ByteArray) (c : Int) : Value := if c = 0 then .nilIface else lostV what c
theorem wrapped_s {w0 w : World} {R : List Asn} (S : Sep w0 w R) (what : ByteArray) (c : Int) :
    Calls Tryz.prog 120 #[.string what, .int .i64 c] w fun e w' => e = .returned (errV what c) ∧ Sep w0 w' R := by
  by_cases hc : c = 0
  · subst hc
    go_enter Tryz.func120, Tryz.ntmps120
    go_wp2
    go_ret
    exact ⟨rfl, S⟩
  · have hb : (c == 0) = false := by simp [hc]
    have he : errV what c = lostV what c := by simp [errV, hc]
    rw [he]
    go_enter Tryz.func120, Tryz.ntmps120
    go_wp2
    go_ret
    exact ⟨rfl, S⟩
set_option maxHeartbeats 4000000 in
theorem code_s {w0 w : World} {R : List Asn} (hr : Rt w0) (S : Sep w0 w R) (what : ByteArray) (c : Int) :
    Calls Tryz.prog 68 #[errV what c] w fun e w' => e = .returned (.int .i64 c) ∧ Sep w0 w' R := by
  by_cases hc : c = 0
  · subst hc
    have he : errV what 0 = .nilIface := rfl
    rw [he]
    have S1 := S.alloc #[.int .i64 0] 178
    go_enter Tryz.func68, Tryz.ntmps68
    go_wp2_with (go_at_call 122; refine (as_nil _ _).mono ?_; rintro _ _ ⟨rfl, rfl⟩)
    go_ret
    exact ⟨rfl, S1.drop⟩
  · have he : errV what c = lostV what c := by simp [errV, hc]
    rw [he]
    have S1 := S.alloc #[.int .i64 0] 178
    have hc1 := S1.cell 0 (v := .int .i64 0) rfl
    have hf1 := S1.free 0
    have hA := as_lost what c ⟨w.heap.size, 0, none⟩ (.int .i64 0) _ (rt_sep hr S1) hc1 hf1
    have S2 := (((((S1.alloc #[.pointer (some ⟨w.heap.size, 0, none⟩)] 180).alloc #[.pointer (some ⟨2, 180, none⟩), .pointer (some ⟨(w.alloc (.cells #[.int .i64 0] 178)).heap.size, 0, none⟩), .int .u64 150] 219).alloc #[.pointer (some ⟨2, 180, none⟩), .pointer (some ⟨(w.alloc (.cells #[.int .i64 0] 178)).heap.size, 0, none⟩), .int .u64 150] 219).alloc #[.string what, .iface 178 (.agg #[.int .i64 c])] 215).alloc #[.int .i64 c] 178)
    have S3 : Sep w0 (asLost (w.alloc (.cells #[.int .i64 0] 178)) ⟨w.heap.size, 0, none⟩ what c) (Blk w.heap.size #[.int .i64 c] 178 :: R) := S2.drop.drop.drop.drop.drop.set 0 (.int .i64 c)
    have hc3 := S3.cell 0 (v := .int .i64 c) rfl
    clear S2 hf1 hc1
    go_enter Tryz.func68, Tryz.ntmps68
    go_wp2_with (go_at_call 122; refine hA.mono ?_; rintro _ _ ⟨rfl, rfl⟩)
    go_ret
    exact ⟨rfl, S3.drop⟩
end Go.Proofs.YtmafafingdpopaaGreatDoor.Errs
/- errors.Is at a trouble and its sentinel. -/
namespace Go.Proofs.YtmafafingdpopaaGreatDoor.Errs
open Go.Proofs Go.RowKit Go.Extern.Stop Go.Stop Go.Extern Go.Proofs.YtmafafingdpopaaGreatDoorW.PrintWords Go.Proofs.YtmafafingdpopaaGreatDoorW.PrintLast Go.Proofs.YtmafafingdpopaaGreatDoorW.PrintMore Go.Proofs.YtmafafingdpopaaGreatDoor.Dev Go.Proofs.YtmafafingdpopaaGreatDoor.Sep
set_option linter.unusedVariables false
set_option linter.unusedSimpArgs false
theorem isTypeOf (v : Value) (w : World) : (ReflectliteType.typeOf #[.iface 298 v]).run Tryz.prog w = .ok (.iface 249 (.agg #[.pointer (some ⟨2, 298, none⟩)])) w := by kernel_rfl
theorem isComparable (w : World) : ((ReflectliteType.method fun t => do Rtype.noPackHeld "Comparable" t; (fun a => Value.bool a.comparable) <$> typeInfo t) #[.agg #[.pointer (some ⟨2, 298, none⟩)]]).run Tryz.prog w = .ok (.bool true) w := by kernel_rfl
theorem isComp : (Tryz.prog.info? 298).map (·.comparable) = some true := by kernel_rfl
theorem isSize : (Tryz.prog.info? 318).map (·.size) = some 1 := by kernel_rfl
theorem hasIsT (v : Value) (xT : TypeId) (w : World) : (Instr.typeAssert (.iface 283 v) xT 295 true).run Tryz.prog w = .ok (.tuple #[.iface 283 v, .bool true]) w := run_typeAssert_hasB Tryz.underlying295 (by kernel_rfl) v xT w
theorem methodIsT (v : Value) (w : World) : (Go.method 430 283 v "Is").run Tryz.prog w = .ok (269, v) w := by kernel_rfl
theorem eqlTE (c : Int) (a : Addr) (w : World) : (binOp BinOp.eql 126 (.iface 283 (.agg #[.int .i64 c])) (.iface 298 (.pointer (some a)))).run Tryz.prog w = .ok (.bool false) w := by kernel_rfl
/-- The sentinel in its variable. -/
def Sen (a : Addr) (w : World) : Prop := w.cell? ⟨1, 0, none⟩ = some (.iface 298 (.pointer (some a)))
set_option maxRecDepth 100000 in
set_option maxHeartbeats 4000000 in
theorem is_trouble (c : Int) (a : Addr) (w : World) (hs : Sen a w) :
    Calls Tryz.prog 221 #[.iface 283 (.agg #[.int .i64 c]), .iface 298 (.pointer (some a))] w fun e w' => e = .returned (.bool true) ∧ w' = w.alloc (.cells #[.int .i64 c] 283) := by
  obtain ⟨i, hi, hcmp⟩ := Option.map_eq_some_iff.1 isComp
  obtain ⟨j, hj, hjs⟩ := Option.map_eq_some_iff.1 isSize
  have h8 := @run_callFunc_extern Tryz.prog 196 _ ReflectliteType.typeOf Tryz.func196 (by kernel_rfl) (by kernel_rfl) (by kernel_rfl) (by kernel_rfl)
  have h32 := @run_callFunc_extern Tryz.prog 259 _ (ReflectliteType.method fun t => do Rtype.noPackHeld "Comparable" t; pure (.bool (← typeInfo t).comparable)) Tryz.func259 (by kernel_rfl) (by kernel_rfl) (by kernel_rfl) (by kernel_rfl)
  have tT := isTypeOf
  have cT := isComparable
  have mR := methodComparable
  have tI := hasIsT
  have mI := methodIsT
  have eT := eqlTE
  have hlt : 1 < w.heap.size := by
    rcases Nat.lt_or_ge 1 w.heap.size with h | h
    · exact h
    · simp [Sen, World.cell?, Array.getElem?_eq_none h] at hs
  have hs1 : w.cell? ⟨1, 0, none⟩ = some (.iface 298 (.pointer (some a))) := hs
  have hs2 : (w.alloc (.cells #[.int .i64 c] 283)).cell? ⟨1, 0, none⟩ = some (.iface 298 (.pointer (some a))) := by
    rw [World.cell?_alloc_lt _ _ ⟨1, 0, none⟩ hlt]; exact hs
  have heq := run_eql_iface_ptr_same (P := Tryz.prog) (w.alloc (.cells #[.int .i64 c] 283)) a Tryz.underlying126 Tryz.underlying298 hi hcmp hj
  have hgB : (w.alloc (.cells #[.int .i64 c] 283)).cell? ⟨1, 0, none⟩ = some (.iface 298 (.pointer (some a))) := hs2
  go_enter Tryz.func221, Tryz.ntmps221
  go_wp2
  refine wp_loop_rounds 1 ?_
  rw [rounds_succ]
  go_wp2
  go_ret
  exact ⟨rfl, rfl⟩
end Go.Proofs.YtmafafingdpopaaGreatDoor.Errs
