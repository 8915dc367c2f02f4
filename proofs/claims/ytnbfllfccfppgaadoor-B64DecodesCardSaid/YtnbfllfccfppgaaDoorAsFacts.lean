/-
  errors.As at the two targets that the statements use: *api.Errno and **api.At. The model's entries for internal/reflectlite as closed facts at this program's types; then errors.As by contract: an error that is an Errno, an *At (its Unwrap walked), at each target.
-/
import Derived.Test.YtnbfllfccfppgaaDoorProg
import Derived.WalkKit
import Derived.LaidEql
import Derived.Stop.Asserts
import Derived.RowKitTokens
namespace Go.Proofs.YtnbfllfccfppgaaDoor
open Go.RowKit Go.Extern.Stop Go.Stop Go.Extern

/-! ### closed facts: 47: *Errno; 43: Errno; 49: **At; 48: *At -/
theorem A.valueOfPE (t : Addr) (w : World) : (ReflectliteValue.unpack (.iface 47 (.pointer (some t)))).run Tryd.prog w
    = .ok (.agg #[.pointer (some ⟨1, 47, none⟩), .pointer (some ⟨w.heap.size, 0, none⟩), .int .u64 150]) (w.alloc (.cells #[.pointer (some t)] 47)) := by kernel_rfl
theorem A.typePE (a : Addr) (w : World) : (ReflectliteValue.methodAny (ReflectliteValue.valueError "reflectlite.Value.Type" 0) (fun t _ _ _ => ReflectliteType.toType t) #[.agg #[.pointer (some ⟨1, 47, none⟩), .pointer (some a), .int .u64 150]]).run Tryd.prog w
    = .ok (.iface 67 (.agg #[.pointer (some ⟨1, 47, none⟩)])) w := by kernel_rfl
theorem A.valueOfPA (t : Addr) (w : World) : (ReflectliteValue.unpack (.iface 49 (.pointer (some t)))).run Tryd.prog w
    = .ok (.agg #[.pointer (some ⟨1, 49, none⟩), .pointer (some ⟨w.heap.size, 0, none⟩), .int .u64 150]) (w.alloc (.cells #[.pointer (some t)] 49)) := by kernel_rfl
theorem A.typePA (a : Addr) (w : World) : (ReflectliteValue.methodAny (ReflectliteValue.valueError "reflectlite.Value.Type" 0) (fun t _ _ _ => ReflectliteType.toType t) #[.agg #[.pointer (some ⟨1, 49, none⟩), .pointer (some a), .int .u64 150]]).run Tryd.prog w
    = .ok (.iface 67 (.agg #[.pointer (some ⟨1, 49, none⟩)])) w := by kernel_rfl
theorem A.methodKind (h : Value) (w : World) : (Go.method 207 67 (.agg #[h]) "Kind").run Tryd.prog w = .ok (44, h) w := by kernel_rfl
theorem A.methodElem (h : Value) (w : World) : (Go.method 207 67 (.agg #[h]) "Elem").run Tryd.prog w = .ok (57, .agg #[h]) w := by kernel_rfl
theorem A.methodImplements (h : Value) (w : World) : (Go.method 207 67 (.agg #[h]) "Implements").run Tryd.prog w = .ok (58, .agg #[h]) w := by kernel_rfl
theorem A.methodAssignableTo (h : Value) (w : World) : (Go.method 207 67 (.agg #[h]) "AssignableTo").run Tryd.prog w = .ok (55, .agg #[h]) w := by kernel_rfl
theorem A.methodUnwrap (a : Addr) (w : World) : (Go.method 207 48 (.pointer (some a)) "Unwrap").run Tryd.prog w = .ok (50, .pointer (some a)) w := by kernel_rfl
theorem A.kindPE (w : World) : ((ReflectliteType.abiMethod fun t => (fun a : Nat => Value.int IntKind.u8 (a : Int)) <$> Rtype.kind t) #[.pointer (some ⟨1, 47, none⟩)]).run Tryd.prog w = .ok (.int .u8 22) w := by kernel_rfl
theorem A.kindE (w : World) : ((ReflectliteType.abiMethod fun t => (fun a : Nat => Value.int IntKind.u8 (a : Int)) <$> Rtype.kind t) #[.pointer (some ⟨1, 43, none⟩)]).run Tryd.prog w = .ok (.int .u8 2) w := by kernel_rfl
theorem A.kindPA (w : World) : ((ReflectliteType.abiMethod fun t => (fun a : Nat => Value.int IntKind.u8 (a : Int)) <$> Rtype.kind t) #[.pointer (some ⟨1, 49, none⟩)]).run Tryd.prog w = .ok (.int .u8 22) w := by kernel_rfl
theorem A.kindA (w : World) : ((ReflectliteType.abiMethod fun t => (fun a : Nat => Value.int IntKind.u8 (a : Int)) <$> Rtype.kind t) #[.pointer (some ⟨1, 48, none⟩)]).run Tryd.prog w = .ok (.int .u8 22) w := by kernel_rfl

theorem rlm (z : Sem Value) (f : TypeId → Addr → Nat → Nat → Sem Value) (v : Value) :
    ReflectliteValue.method z f #[v] = (do match ← ReflectliteValue.parts v with | none => z | some (t, a, fl) => f t a fl (fl % 32)) := rfl
theorem A.partsPE (a : Addr) (w : World) : (ReflectliteValue.parts (.agg #[.pointer (some ⟨1, 47, none⟩), .pointer (some a), .int .u64 150])).run Tryd.prog w = .ok (some (47, a, 150)) w := by kernel_rfl
theorem A.partsPA (a : Addr) (w : World) : (ReflectliteValue.parts (.agg #[.pointer (some ⟨1, 49, none⟩), .pointer (some a), .int .u64 150])).run Tryd.prog w = .ok (some (49, a, 150)) w := by kernel_rfl
theorem A.isNilPE (a p : Addr) (W : World) (ha : W.cell? a = some (.pointer (some p))) :
    (ReflectliteValue.method (ReflectliteValue.valueError "reflectlite.Value.IsNil" 0) ReflectliteValue.isNil #[.agg #[.pointer (some ⟨1, 47, none⟩), .pointer (some a), .int .u64 150]]).run Tryd.prog W = .ok (.bool false) W := by
  rw [rlm]
  simp only [Sem.run_bind, A.partsPE, Result.andThen]
  simp [ReflectliteValue.isNil, loadVar, isAgg, underlying, Tryd.underlying47, ha, Result.andThen]
theorem A.isNilPA (a p : Addr) (W : World) (ha : W.cell? a = some (.pointer (some p))) :
    (ReflectliteValue.method (ReflectliteValue.valueError "reflectlite.Value.IsNil" 0) ReflectliteValue.isNil #[.agg #[.pointer (some ⟨1, 49, none⟩), .pointer (some a), .int .u64 150]]).run Tryd.prog W = .ok (.bool false) W := by
  rw [rlm]
  simp only [Sem.run_bind, A.partsPA, Result.andThen]
  simp [ReflectliteValue.isNil, loadVar, isAgg, underlying, Tryd.underlying49, ha, Result.andThen]

theorem A.elemPE (w : World) : (ReflectliteType.method ReflectliteType.elem #[.agg #[.pointer (some ⟨1, 47, none⟩)]]).run Tryd.prog w = .ok (.iface 67 (.agg #[.pointer (some ⟨1, 43, none⟩)])) w := by kernel_rfl
theorem A.elemPA (w : World) : (ReflectliteType.method ReflectliteType.elem #[.agg #[.pointer (some ⟨1, 49, none⟩)]]).run Tryd.prog w = .ok (.iface 67 (.agg #[.pointer (some ⟨1, 48, none⟩)])) w := by kernel_rfl
theorem A.implementsE (w : World) : (ReflectliteType.relation "Implements" ReflectliteType.implements_ #[.agg #[.pointer (some ⟨1, 43, none⟩)], .iface 67 (.agg #[.pointer (some ⟨1, 28, none⟩)])]).run Tryd.prog w = .ok (.bool true) w := by kernel_rfl
theorem A.implementsA (w : World) : (ReflectliteType.relation "Implements" ReflectliteType.implements_ #[.agg #[.pointer (some ⟨1, 48, none⟩)], .iface 67 (.agg #[.pointer (some ⟨1, 28, none⟩)])]).run Tryd.prog w = .ok (.bool true) w := by kernel_rfl
theorem A.typeOfE (v : Value) (w : World) : (ReflectliteType.typeOf #[.iface 43 v]).run Tryd.prog w = .ok (.iface 67 (.agg #[.pointer (some ⟨1, 43, none⟩)])) w := by kernel_rfl
theorem A.typeOfA (v : Value) (w : World) : (ReflectliteType.typeOf #[.iface 48 v]).run Tryd.prog w = .ok (.iface 67 (.agg #[.pointer (some ⟨1, 48, none⟩)])) w := by kernel_rfl
theorem A.assignableEE (w : World) : (ReflectliteType.relation "AssignableTo" ReflectliteType.assignableTo #[.agg #[.pointer (some ⟨1, 43, none⟩)], .iface 67 (.agg #[.pointer (some ⟨1, 43, none⟩)])]).run Tryd.prog w = .ok (.bool true) w := by kernel_rfl
theorem A.assignableAA (w : World) : (ReflectliteType.relation "AssignableTo" ReflectliteType.assignableTo #[.agg #[.pointer (some ⟨1, 48, none⟩)], .iface 67 (.agg #[.pointer (some ⟨1, 48, none⟩)])]).run Tryd.prog w = .ok (.bool true) w := by kernel_rfl
theorem A.assignableAE (w : World) : (ReflectliteType.relation "AssignableTo" ReflectliteType.assignableTo #[.agg #[.pointer (some ⟨1, 48, none⟩)], .iface 67 (.agg #[.pointer (some ⟨1, 43, none⟩)])]).run Tryd.prog w = .ok (.bool false) w := by kernel_rfl
theorem A.assignableEA (w : World) : (ReflectliteType.relation "AssignableTo" ReflectliteType.assignableTo #[.agg #[.pointer (some ⟨1, 43, none⟩)], .iface 67 (.agg #[.pointer (some ⟨1, 48, none⟩)])]).run Tryd.prog w = .ok (.bool false) w := by kernel_rfl
theorem A.valueOfE (n : Int) (w : World) : (ReflectliteValue.unpack (.iface 43 (.int .i64 n))).run Tryd.prog w
    = .ok (.agg #[.pointer (some ⟨1, 43, none⟩), .pointer (some ⟨w.heap.size, 0, none⟩), .int .u64 130]) (w.alloc (.cells #[.int .i64 n] 43)) := by kernel_rfl
theorem A.valueOfA (e : Addr) (w : World) : (ReflectliteValue.unpack (.iface 48 (.pointer (some e)))).run Tryd.prog w
    = .ok (.agg #[.pointer (some ⟨1, 48, none⟩), .pointer (some ⟨w.heap.size, 0, none⟩), .int .u64 150]) (w.alloc (.cells #[.pointer (some e)] 48)) := by kernel_rfl
theorem A.elemOfPE (w : World) : (Rtype.elem? 47).run Tryd.prog w = .ok (some 43) w := by kernel_rfl
theorem A.elemOfPA (w : World) : (Rtype.elem? 49).run Tryd.prog w = .ok (some 48) w := by kernel_rfl
theorem A.mkE (p : Addr) (w : World) : (ReflectliteValue.mk 43 p ReflectliteValue.flagAddr).run Tryd.prog w = .ok (.agg #[.pointer (some ⟨1, 43, none⟩), .pointer (some p), .int .u64 386]) w := by kernel_rfl
theorem A.mkA (p : Addr) (w : World) : (ReflectliteValue.mk 48 p ReflectliteValue.flagAddr).run Tryd.prog w = .ok (.agg #[.pointer (some ⟨1, 48, none⟩), .pointer (some p), .int .u64 406]) w := by kernel_rfl
theorem A.elemVPE (a p : Addr) (W : World) (ha : W.cell? a = some (.pointer (some p))) :
    (ReflectliteValue.method (ReflectliteValue.valueError "reflectlite.Value.Elem" 0) ReflectliteValue.elem #[.agg #[.pointer (some ⟨1, 47, none⟩), .pointer (some a), .int .u64 150]]).run Tryd.prog W
      = .ok (.agg #[.pointer (some ⟨1, 43, none⟩), .pointer (some p), .int .u64 386]) W := by
  rw [rlm]
  simp only [Sem.run_bind, A.partsPE, Result.andThen]
  simp [ReflectliteValue.elem, loadVar, isAgg, underlying, Tryd.underlying47, ha, Result.andThen, A.elemOfPE, A.mkE]
theorem A.elemVPA (a p : Addr) (W : World) (ha : W.cell? a = some (.pointer (some p))) :
    (ReflectliteValue.method (ReflectliteValue.valueError "reflectlite.Value.Elem" 0) ReflectliteValue.elem #[.agg #[.pointer (some ⟨1, 49, none⟩), .pointer (some a), .int .u64 150]]).run Tryd.prog W
      = .ok (.agg #[.pointer (some ⟨1, 48, none⟩), .pointer (some p), .int .u64 406]) W := by
  rw [rlm]
  simp only [Sem.run_bind, A.partsPA, Result.andThen]
  simp [ReflectliteValue.elem, loadVar, isAgg, underlying, Tryd.underlying49, ha, Result.andThen, A.elemOfPA, A.mkA]
theorem rls (v x : Value) : ReflectliteValue.set #[v, x] = (do
    let (some (dst, a, fl), some (src, b, _)) := (← ReflectliteValue.parts v, ← ReflectliteValue.parts x)
      | unsupported (.noEntry "extern/(internal/reflectlite.Value).Set.zeroValue")
    if fl / ReflectliteValue.flagAddr % 2 == 0 then unsupported (.noEntry "extern/(internal/reflectlite.Value).Set.unaddressable")
    let val ← loadVar src b
    if ← Rtype.directlyAssignable dst src then storeVar dst a val
    else if ← Rtype.implements dst src then
      if (← Rtype.kind src) == 20 then
        match val with
        | .nilIface => unsupported (.noEntry "extern/reflectlite: a nil value of one interface type handed on as a value of another")
        | _ => storeVar dst a val
      else storeVar dst a (.iface src val)
    else panicString ("reflectlite.Set: value of type " ++ (← Rtype.spelt src) ++ " is not assignable to type " ++ (← Rtype.spelt dst))
    pure (.tuple #[])) := rfl
theorem A.partsEa (a : Addr) (w : World) : (ReflectliteValue.parts (.agg #[.pointer (some ⟨1, 43, none⟩), .pointer (some a), .int .u64 386])).run Tryd.prog w = .ok (some (43, a, 386)) w := by kernel_rfl
theorem A.partsE (a : Addr) (w : World) : (ReflectliteValue.parts (.agg #[.pointer (some ⟨1, 43, none⟩), .pointer (some a), .int .u64 130])).run Tryd.prog w = .ok (some (43, a, 130)) w := by kernel_rfl
theorem A.partsAa (a : Addr) (w : World) : (ReflectliteValue.parts (.agg #[.pointer (some ⟨1, 48, none⟩), .pointer (some a), .int .u64 406])).run Tryd.prog w = .ok (some (48, a, 406)) w := by kernel_rfl
theorem A.partsA (a : Addr) (w : World) : (ReflectliteValue.parts (.agg #[.pointer (some ⟨1, 48, none⟩), .pointer (some a), .int .u64 150])).run Tryd.prog w = .ok (some (48, a, 150)) w := by kernel_rfl
theorem A.directE (w : World) : (Rtype.directlyAssignable 43 43).run Tryd.prog w = .ok true w := by kernel_rfl
theorem A.directA (w : World) : (Rtype.directlyAssignable 48 48).run Tryd.prog w = .ok true w := by kernel_rfl
theorem A.setE (ta b : Addr) (n : Int) (old : Value) (W : World) (hb : W.cell? b = some (.int .i64 n)) (ht : W.cell? ta = some old) (hf : W.frozen? ta = false) :
    (ReflectliteValue.set #[.agg #[.pointer (some ⟨1, 43, none⟩), .pointer (some ta), .int .u64 386], .agg #[.pointer (some ⟨1, 43, none⟩), .pointer (some b), .int .u64 130]]).run Tryd.prog W
      = .ok (.tuple #[]) (W.setCell ta (.int .i64 n)) := by
  rw [rls]
  simp only [Sem.run_bind, A.partsEa, A.partsE, Result.andThen]
  simp [ReflectliteValue.flagAddr, loadVar, isAgg, underlying, Tryd.underlying43, hb, Result.andThen, A.directE, storeVar, Value.cells, storeCells, Addr.add]
  rw [run_store Tryd.prog W ta _ _ (by rfl)]
  simp [ht, hf]
theorem A.setA (ta b e : Addr) (old : Value) (W : World) (hb : W.cell? b = some (.pointer (some e))) (ht : W.cell? ta = some old) (hf : W.frozen? ta = false) :
    (ReflectliteValue.set #[.agg #[.pointer (some ⟨1, 48, none⟩), .pointer (some ta), .int .u64 406], .agg #[.pointer (some ⟨1, 48, none⟩), .pointer (some b), .int .u64 150]]).run Tryd.prog W
      = .ok (.tuple #[]) (W.setCell ta (.pointer (some e))) := by
  rw [rls]
  simp only [Sem.run_bind, A.partsAa, A.partsA, Result.andThen]
  simp [ReflectliteValue.flagAddr, loadVar, isAgg, underlying, Tryd.underlying48, hb, Result.andThen, A.directA, storeVar, Value.cells, storeCells, Addr.add]
  rw [run_store Tryd.prog W ta _ _ (by rfl)]
  simp [ht, hf]

/-! ### the type assertions of errors.as -/
theorem A.noAsA (v : Value) (xT : TypeId) (w : World) : (Instr.typeAssert (.iface 48 v) xT 72 true).run Tryd.prog w = .ok (.tuple #[.nilIface, .bool false]) w := run_typeAssert_lacksB Tryd.underlying72 (by kernel_rfl) (by kernel_rfl) v xT w
theorem A.noAsE (v : Value) (xT : TypeId) (w : World) : (Instr.typeAssert (.iface 43 v) xT 72 true).run Tryd.prog w = .ok (.tuple #[.nilIface, .bool false]) w := run_typeAssert_lacksB Tryd.underlying72 (by kernel_rfl) (by kernel_rfl) v xT w
theorem A.unA (v : Value) (xT : TypeId) (w : World) : (Instr.typeAssert (.iface 48 v) xT 75 true).run Tryd.prog w = .ok (.tuple #[.iface 48 v, .bool true]) w := run_typeAssert_hasB Tryd.underlying75 (by kernel_rfl) v xT w
theorem A.noUnE (v : Value) (xT : TypeId) (w : World) : (Instr.typeAssert (.iface 43 v) xT 75 true).run Tryd.prog w = .ok (.tuple #[.nilIface, .bool false]) w := run_typeAssert_lacksB Tryd.underlying75 (by kernel_rfl) (by kernel_rfl) v xT w
theorem A.noUnsE (v : Value) (xT : TypeId) (w : World) : (Instr.typeAssert (.iface 43 v) xT 77 true).run Tryd.prog w = .ok (.tuple #[.nilIface, .bool false]) w := run_typeAssert_lacksB Tryd.underlying77 (by kernel_rfl) (by kernel_rfl) v xT w

end Go.Proofs.YtnbfllfccfppgaaDoor
