/-
  AsFacts, As, Err, RowRead0, RowReadOf, RowUConsent, RowUCode, RowUFamily: this proof's parts in one text.
-/
import Derived.Test.YtcgjacffemjehaaDoorProg
import Derived.WalkKit
import Derived.LaidEql
import Derived.Stop.Asserts
import Derived.RowKitTokens
import Derived.Test.YtcgjacffemjehaaDoorMRowReadsRowa
import Derived.Test.YtcgjacffemjehaaDoorMRowReadsRowb
import Derived.Laws.Rows
import Derived.Deep.WholeRow
import Derived.Deep.MidRow
import Derived.Deep.RegionHeld3
import Derived.Great.Walk
import Derived.Great.BuildSlice
namespace Go.Proofs.YtcgjacffemjehaaDoor
open Go.RowKit Go.Extern.Stop Go.Stop Go.Extern

theorem A.valueOfPE (t : Addr) (w : World) : (ReflectliteValue.unpack (.iface 113 (.pointer (some t)))).run Tryd.prog w
    = .ok (.agg #[.pointer (some ⟨1, 113, none⟩), .pointer (some ⟨w.heap.size, 0, none⟩), .int .u64 150]) (w.alloc (.cells #[.pointer (some t)] 113)) := by kernel_rfl
theorem A.typePE (a : Addr) (w : World) : (ReflectliteValue.methodAny (ReflectliteValue.valueError "reflectlite.Value.Type" 0) (fun t _ _ _ => ReflectliteType.toType t) #[.agg #[.pointer (some ⟨1, 113, none⟩), .pointer (some a), .int .u64 150]]).run Tryd.prog w
    = .ok (.iface 170 (.agg #[.pointer (some ⟨1, 113, none⟩)])) w := by kernel_rfl
theorem A.methodKind (h : Value) (w : World) : (Go.method 311 170 (.agg #[h]) "Kind").run Tryd.prog w = .ok (100, h) w := by kernel_rfl
theorem A.methodElem (h : Value) (w : World) : (Go.method 311 170 (.agg #[h]) "Elem").run Tryd.prog w = .ok (110, .agg #[h]) w := by kernel_rfl
theorem A.methodImplements (h : Value) (w : World) : (Go.method 311 170 (.agg #[h]) "Implements").run Tryd.prog w = .ok (111, .agg #[h]) w := by kernel_rfl
theorem A.methodAssignableTo (h : Value) (w : World) : (Go.method 311 170 (.agg #[h]) "AssignableTo").run Tryd.prog w = .ok (108, .agg #[h]) w := by kernel_rfl
theorem A.kindPE (w : World) : ((ReflectliteType.abiMethod fun t => (fun a : Nat => Value.int IntKind.u8 (a : Int)) <$> Rtype.kind t) #[.pointer (some ⟨1, 113, none⟩)]).run Tryd.prog w = .ok (.int .u8 22) w := by kernel_rfl
theorem A.kindE (w : World) : ((ReflectliteType.abiMethod fun t => (fun a : Nat => Value.int IntKind.u8 (a : Int)) <$> Rtype.kind t) #[.pointer (some ⟨1, 111, none⟩)]).run Tryd.prog w = .ok (.int .u8 2) w := by kernel_rfl
theorem rlm (z : Sem Value) (f : TypeId → Addr → Nat → Nat → Sem Value) (v : Value) :
    ReflectliteValue.method z f #[v] = (do match ← ReflectliteValue.parts v with | none => z | some (t, a, fl) => f t a fl (fl % 32)) := rfl
theorem A.partsPE (a : Addr) (w : World) : (ReflectliteValue.parts (.agg #[.pointer (some ⟨1, 113, none⟩), .pointer (some a), .int .u64 150])).run Tryd.prog w = .ok (some (113, a, 150)) w := by kernel_rfl
theorem A.isNilPE (a p : Addr) (W : World) (ha : W.cell? a = some (.pointer (some p))) :
    (ReflectliteValue.method (ReflectliteValue.valueError "reflectlite.Value.IsNil" 0) ReflectliteValue.isNil #[.agg #[.pointer (some ⟨1, 113, none⟩), .pointer (some a), .int .u64 150]]).run Tryd.prog W = .ok (.bool false) W := by
  rw [rlm]
  simp only [Sem.run_bind, A.partsPE, Result.andThen]
  simp [ReflectliteValue.isNil, loadVar, isAgg, underlying, Tryd.underlying113, ha, Result.andThen]
theorem A.elemPE (w : World) : (ReflectliteType.method ReflectliteType.elem #[.agg #[.pointer (some ⟨1, 113, none⟩)]]).run Tryd.prog w = .ok (.iface 170 (.agg #[.pointer (some ⟨1, 111, none⟩)])) w := by kernel_rfl
theorem A.implementsE (w : World) : (ReflectliteType.relation "Implements" ReflectliteType.implements_ #[.agg #[.pointer (some ⟨1, 111, none⟩)], .iface 170 (.agg #[.pointer (some ⟨1, 53, none⟩)])]).run Tryd.prog w = .ok (.bool true) w := by kernel_rfl
theorem A.typeOfE (v : Value) (w : World) : (ReflectliteType.typeOf #[.iface 111 v]).run Tryd.prog w = .ok (.iface 170 (.agg #[.pointer (some ⟨1, 111, none⟩)])) w := by kernel_rfl
theorem A.assignableEE (w : World) : (ReflectliteType.relation "AssignableTo" ReflectliteType.assignableTo #[.agg #[.pointer (some ⟨1, 111, none⟩)], .iface 170 (.agg #[.pointer (some ⟨1, 111, none⟩)])]).run Tryd.prog w = .ok (.bool true) w := by kernel_rfl
theorem A.valueOfE (n : Int) (w : World) : (ReflectliteValue.unpack (.iface 111 (.int .i64 n))).run Tryd.prog w
    = .ok (.agg #[.pointer (some ⟨1, 111, none⟩), .pointer (some ⟨w.heap.size, 0, none⟩), .int .u64 130]) (w.alloc (.cells #[.int .i64 n] 111)) := by kernel_rfl
theorem A.elemOfPE (w : World) : (Rtype.elem? 113).run Tryd.prog w = .ok (some 111) w := by kernel_rfl
theorem A.mkE (p : Addr) (w : World) : (ReflectliteValue.mk 111 p ReflectliteValue.flagAddr).run Tryd.prog w = .ok (.agg #[.pointer (some ⟨1, 111, none⟩), .pointer (some p), .int .u64 386]) w := by kernel_rfl
theorem A.elemVPE (a p : Addr) (W : World) (ha : W.cell? a = some (.pointer (some p))) :
    (ReflectliteValue.method (ReflectliteValue.valueError "reflectlite.Value.Elem" 0) ReflectliteValue.elem #[.agg #[.pointer (some ⟨1, 113, none⟩), .pointer (some a), .int .u64 150]]).run Tryd.prog W
      = .ok (.agg #[.pointer (some ⟨1, 111, none⟩), .pointer (some p), .int .u64 386]) W := by
  rw [rlm]
  simp only [Sem.run_bind, A.partsPE, Result.andThen]
  simp [ReflectliteValue.elem, loadVar, isAgg, underlying, Tryd.underlying113, ha, Result.andThen, A.elemOfPE, A.mkE]
theorem rls (v x : Value) : ReflectliteValue.set #[v, x] = (do
    let (some (dst, a, fl), some (src, b, _)) := (← ReflectliteValue.parts v, ← ReflectliteValue.parts x)
      | unsupported (.noEntry "extern/(internal/reflectlite.Value).Set.zeroValue")
    if fl / ReflectliteValue.flagAddr % 2 == 0 then unsupported (.noEntry "extern/(internal/reflectlite.Value).Set.unaddressable")
    let val ← loadVar src b
    if ← Rtype.directlyAssignable dst src then storeVar dst a val
    else if ← Rtype.implements dst src then
      if (← Rtype.kind src) == 20 then
        match val with
        | .nilIface => unsupported (.noEntry "extern/reflectlite: a nil value of one interface type handed on as a value of another")
        | _ => storeVar dst a val
      else storeVar dst a (.iface src val)
    else panicString ("reflectlite.Set: value of type " ++ (← Rtype.spelt src) ++ " is not assignable to type " ++ (← Rtype.spelt dst))
    pure (.tuple #[])) := rfl
theorem A.partsEa (a : Addr) (w : World) : (ReflectliteValue.parts (.agg #[.pointer (some ⟨1, 111, none⟩), .pointer (some a), .int .u64 386])).run Tryd.prog w = .ok (some (111, a, 386)) w := by kernel_rfl
theorem A.partsE (a : Addr) (w : World) : (ReflectliteValue.parts (.agg #[.pointer (some ⟨1, 111, none⟩), .pointer (some a), .int .u64 130])).run Tryd.prog w = .ok (some (111, a, 130)) w := by kernel_rfl
theorem A.directE (w : World) : (Rtype.directlyAssignable 111 111).run Tryd.prog w = .ok true w := by kernel_rfl
theorem A.setE (ta b : Addr) (n : Int) (old : Value) (W : World) (hb : W.cell? b = some (.int .i64 n)) (ht : W.cell? ta = some old) (hf : W.frozen? ta = false) :
    (ReflectliteValue.set #[.agg #[.pointer (some ⟨1, 111, none⟩), .pointer (some ta), .int .u64 386], .agg #[.pointer (some ⟨1, 111, none⟩), .pointer (some b), .int .u64 130]]).run Tryd.prog W
      = .ok (.tuple #[]) (W.setCell ta (.int .i64 n)) := by
  rw [rls]
  simp only [Sem.run_bind, A.partsEa, A.partsE, Result.andThen]
  simp [ReflectliteValue.flagAddr, loadVar, isAgg, underlying, Tryd.underlying111, hb, Result.andThen, A.directE, storeVar, Value.cells, storeCells, Addr.add]
  rw [run_store Tryd.prog W ta _ _ (by rfl)]
  simp [ht, hf]
theorem A.noAsE (v : Value) (xT : TypeId) (w : World) : (Instr.typeAssert (.iface 111 v) xT 175 true).run Tryd.prog w = .ok (.tuple #[.nilIface, .bool false]) w := run_typeAssert_lacksB Tryd.underlying175 (by kernel_rfl) (by kernel_rfl) v xT w
theorem A.noUnE (v : Value) (xT : TypeId) (w : World) : (Instr.typeAssert (.iface 111 v) xT 178 true).run Tryd.prog w = .ok (.tuple #[.nilIface, .bool false]) w := run_typeAssert_lacksB Tryd.underlying178 (by kernel_rfl) (by kernel_rfl) v xT w
theorem A.noUnsE (v : Value) (xT : TypeId) (w : World) : (Instr.typeAssert (.iface 111 v) xT 180 true).run Tryd.prog w = .ok (.tuple #[.nilIface, .bool false]) w := run_typeAssert_lacksB Tryd.underlying180 (by kernel_rfl) (by kernel_rfl) v xT w

end Go.Proofs.YtcgjacffemjehaaDoor

namespace Go.Proofs.YtcgjacffemjehaaDoor
open Go.RowKit Go.Extern.Stop Go.Stop Go.Extern

/-! ### the functions without a body, by name -/
theorem A.xValueOf (args : Array Value) (w : World) : (callFunc 75 args).run Tryd.prog w = (((fun args : Array Value => ReflectliteValue.unpack (args.getD 0 (.tuple #[]))) args).run Tryd.prog w).andThen fun v w' => .ok (.value v) w' :=
  run_callFunc_extern (e := (fun args : Array Value => ReflectliteValue.unpack (args.getD 0 (.tuple #[])))) Tryd.func75 (by kernel_rfl) (by kernel_rfl) (by kernel_rfl) (by kernel_rfl) args w
theorem A.xType (args : Array Value) (w : World) : (callFunc 76 args).run Tryd.prog w = (((ReflectliteValue.methodAny (ReflectliteValue.valueError "reflectlite.Value.Type" 0) (fun t _ _ _ => ReflectliteType.toType t)) args).run Tryd.prog w).andThen fun v w' => .ok (.value v) w' :=
  run_callFunc_extern (e := (ReflectliteValue.methodAny (ReflectliteValue.valueError "reflectlite.Value.Type" 0) (fun t _ _ _ => ReflectliteType.toType t))) Tryd.func76 (by kernel_rfl) (by kernel_rfl) (by kernel_rfl) (by kernel_rfl) args w
theorem A.xIsNil (args : Array Value) (w : World) : (callFunc 77 args).run Tryd.prog w = (((ReflectliteValue.method (ReflectliteValue.valueError "reflectlite.Value.IsNil" 0) ReflectliteValue.isNil) args).run Tryd.prog w).andThen fun v w' => .ok (.value v) w' :=
  run_callFunc_extern (e := (ReflectliteValue.method (ReflectliteValue.valueError "reflectlite.Value.IsNil" 0) ReflectliteValue.isNil)) Tryd.func77 (by kernel_rfl) (by kernel_rfl) (by kernel_rfl) (by kernel_rfl) args w
theorem A.xKind (args : Array Value) (w : World) : (callFunc 100 args).run Tryd.prog w = (((ReflectliteType.abiMethod fun t => do pure (.int .u8 (← Rtype.kind t))) args).run Tryd.prog w).andThen fun v w' => .ok (.value v) w' :=
  run_callFunc_extern (e := (ReflectliteType.abiMethod fun t => do pure (.int .u8 (← Rtype.kind t)))) Tryd.func100 (by kernel_rfl) (by kernel_rfl) (by kernel_rfl) (by kernel_rfl) args w
theorem A.xElem (args : Array Value) (w : World) : (callFunc 110 args).run Tryd.prog w = (((ReflectliteType.method ReflectliteType.elem) args).run Tryd.prog w).andThen fun v w' => .ok (.value v) w' :=
  run_callFunc_extern (e := (ReflectliteType.method ReflectliteType.elem)) Tryd.func110 (by kernel_rfl) (by kernel_rfl) (by kernel_rfl) (by kernel_rfl) args w
theorem A.xImplements (args : Array Value) (w : World) : (callFunc 111 args).run Tryd.prog w = (((ReflectliteType.relation "Implements" ReflectliteType.implements_) args).run Tryd.prog w).andThen fun v w' => .ok (.value v) w' :=
  run_callFunc_extern (e := (ReflectliteType.relation "Implements" ReflectliteType.implements_)) Tryd.func111 (by kernel_rfl) (by kernel_rfl) (by kernel_rfl) (by kernel_rfl) args w
theorem A.xTypeOf (args : Array Value) (w : World) : (callFunc 83 args).run Tryd.prog w = ((ReflectliteType.typeOf args).run Tryd.prog w).andThen fun v w' => .ok (.value v) w' :=
  run_callFunc_extern (e := ReflectliteType.typeOf) Tryd.func83 (by kernel_rfl) (by kernel_rfl) (by kernel_rfl) (by kernel_rfl) args w
theorem A.xAssignableTo (args : Array Value) (w : World) : (callFunc 108 args).run Tryd.prog w = (((ReflectliteType.relation "AssignableTo" ReflectliteType.assignableTo) args).run Tryd.prog w).andThen fun v w' => .ok (.value v) w' :=
  run_callFunc_extern (e := (ReflectliteType.relation "AssignableTo" ReflectliteType.assignableTo)) Tryd.func108 (by kernel_rfl) (by kernel_rfl) (by kernel_rfl) (by kernel_rfl) args w
theorem A.xElemV (args : Array Value) (w : World) : (callFunc 84 args).run Tryd.prog w = (((ReflectliteValue.method (ReflectliteValue.valueError "reflectlite.Value.Elem" 0) ReflectliteValue.elem) args).run Tryd.prog w).andThen fun v w' => .ok (.value v) w' :=
  run_callFunc_extern (e := (ReflectliteValue.method (ReflectliteValue.valueError "reflectlite.Value.Elem" 0) ReflectliteValue.elem)) Tryd.func84 (by kernel_rfl) (by kernel_rfl) (by kernel_rfl) (by kernel_rfl) args w
theorem A.xSet (args : Array Value) (w : World) : (callFunc 85 args).run Tryd.prog w = ((ReflectliteValue.set args).run Tryd.prog w).andThen fun v w' => .ok (.value v) w' :=
  run_callFunc_extern (e := ReflectliteValue.set) Tryd.func85 (by kernel_rfl) (by kernel_rfl) (by kernel_rfl) (by kernel_rfl) args w
attribute [local go_sem] A.xValueOf A.xType A.xIsNil A.xKind A.xElem A.xImplements A.xTypeOf A.xAssignableTo A.xElemV A.xSet A.valueOfPE A.typePE A.methodKind A.methodElem A.methodImplements A.methodAssignableTo A.kindPE A.kindE A.elemPE A.implementsE A.typeOfE A.assignableEE A.valueOfE A.noAsE A.noUnE A.noUnsE

/-- What errors.errorType holds. -/
def ErrorType (w : World) : Prop := w.cell? ⟨0, 0, none⟩ = some (.iface 170 (.agg #[.pointer (some ⟨1, 53, none⟩)]))
set_option maxHeartbeats 2000000 in
/-- errors.As(an Errno, a *Errno): true; the target is it. -/
theorem as_EE (n : Int) (t : Addr) (old : Value) (w : World) (hg : ErrorType w) (ht0 : w.cell? t = some old) (hf0 : w.frozen? t = false) :
    Calls Tryd.prog 57 #[.iface 111 (.int .i64 n), .iface 113 (.pointer (some t))] w fun ev w' => ev = .returned (.bool true) ∧ Below w.heap.size (w.setCell t (.int .i64 n)) w' := by
  unfold ErrorType at hg
  have hlt : 0 < w.heap.size := lt_of_cell hg
  have htl : t.block < w.heap.size := lt_of_cell ht0
  have n8 := A.isNilPE ⟨w.heap.size, 0, none⟩ t ((w.alloc (.cells #[.pointer (some t)] 113)).alloc (.cells #[.pointer (some ⟨1, 113, none⟩), .pointer (some ⟨w.heap.size, 0, none⟩), .int .u64 150] 154)) (by simp)
  have hg2 : ((w.alloc (.cells #[.pointer (some t)] 113)).alloc (.cells #[.pointer (some ⟨1, 113, none⟩), .pointer (some ⟨w.heap.size, 0, none⟩), .int .u64 150] 154)).cell? ⟨0, 0, none⟩ = some (.iface 170 (.agg #[.pointer (some ⟨1, 53, none⟩)])) := by
    rw [World.cell?_alloc_lt _ _ ⟨0, 0, none⟩ (by simp; try omega), World.cell?_alloc_lt _ _ ⟨0, 0, none⟩ hlt]; exact hg
  have el := A.elemVPE ⟨w.heap.size, 0, none⟩ t (((w.alloc (.cells #[.pointer (some t)] 113)).alloc (.cells #[.pointer (some ⟨1, 113, none⟩), .pointer (some ⟨w.heap.size, 0, none⟩), .int .u64 150] 154)).alloc (.cells #[.pointer (some ⟨1, 113, none⟩), .pointer (some ⟨w.heap.size, 0, none⟩), .int .u64 150] 154)) (by rw [World.cell?_alloc_lt _ _ ⟨w.heap.size, 0, none⟩ (by simp; omega)]; simp)
  have st := A.setE t ⟨w.heap.size + 1 + 1 + 1, 0, none⟩ n old ((((w.alloc (.cells #[.pointer (some t)] 113)).alloc (.cells #[.pointer (some ⟨1, 113, none⟩), .pointer (some ⟨w.heap.size, 0, none⟩), .int .u64 150] 154)).alloc (.cells #[.pointer (some ⟨1, 113, none⟩), .pointer (some ⟨w.heap.size, 0, none⟩), .int .u64 150] 154)).alloc (.cells #[.int .i64 n] 111))
    (by rw [World.cell?_alloc_at _ _ _ _ (by simp)]; rfl)
    (by rw [World.cell?_alloc_lt _ _ t (by simp; omega), World.cell?_alloc_lt _ _ t (by simp; omega), World.cell?_alloc_lt _ _ t (by simp; omega), World.cell?_alloc_lt _ _ t htl]; exact ht0)
    (by rw [World.frozen?_alloc_old _ _ t (by simp; omega), World.frozen?_alloc_old _ _ t (by simp; omega), World.frozen?_alloc_old _ _ t (by simp; omega), World.frozen?_alloc_old _ _ t (Nat.ne_of_lt htl)]; exact hf0)
  go_enter Tryd.func57, Tryd.ntmps57
  go_wp2
  refine wp_loop_rounds 1 ?_
  rw [rounds_succ]
  go_wp2
  go_ret
  exact ⟨rfl, below_setCell_both (((((Below.refl _ _).alloc (by simp) _).alloc (by simp; try omega) _).alloc (by simp; try omega) _).alloc (by simp; try omega) _) _ _⟩

end Go.Proofs.YtcgjacffemjehaaDoor

namespace Go.Proofs.YtcgjacffemjehaaDoor
open Go.RowKit
set_option linter.unusedVariables false

/-- The program's plain errors. -/
inductive GErr where
  | nil
  | no (n : Int)
  | at_ (pos n : Int)
/-- The error's number, as Num tells it. -/
def GErr.num : GErr → Int
  | .nil => 0
  | .no n => n
  | .at_ _ n => n
/-- The error's place, as Pos tells it. -/
def GErr.pos : GErr → Int
  | .nil => -1
  | .no _ => -1
  | .at_ p _ => p
attribute [simp, go_sem] GErr.num GErr.pos
/-- A value that is an error in a world. -/
def IsErr (w : World) : GErr → Value → Prop
  | .nil, v => v = .nilIface
  | .no n, v => v = .iface 111 (.int .i64 n)
  | .at_ p n, v => False
theorem IsErr.below {w w' : World} {e : GErr} {v : Value} (h : IsErr w e v) (hb : Below w.heap.size w w') : IsErr w' e v := by
  cases e with
  | nil => exact h
  | no n => exact h
  | at_ p n => exact h
theorem ErrorType.below {B : Nat} {w w' : World} (h : ErrorType w) (hb : Below B w w') (hB : 0 < B) : ErrorType w' := by
  unfold ErrorType at *
  rw [hb.cell (p := ⟨0, 0, none⟩) hB]; exact h
theorem ErrorType.lt {w : World} (h : ErrorType w) : 0 < w.heap.size := lt_of_cell h

set_option maxHeartbeats 1000000 in
theorem num_any (e : GErr) (v : Value) (w : World) (hg : ErrorType w) (he : IsErr w e v) :
    Calls Tryd.prog 20 #[v] w fun ev w' => ev = .returned (.int .i64 e.num) ∧ Below w.heap.size w w' := by
  have hlt := hg.lt
  have hgA : ErrorType (w.alloc (.cells #[.int .i64 0] 111)) := hg.below ((Below.refl w.heap.size w).alloc (Nat.le_refl _) _) hlt
  cases e with
  | nil =>
    obtain rfl : v = .nilIface := he
    go_enter Tryd.func20, Tryd.ntmps20
    go_wp2
    go_ret
    exact ⟨rfl, Below.refl _ _⟩
  | no n =>
    obtain rfl : v = .iface 111 (.int .i64 n) := he
    go_enter Tryd.func20, Tryd.ntmps20
    go_wp2_with (go_at_call 57; refine (as_EE n _ (.int .i64 0) _ hgA (by simp) (by simp)).mono ?_; rintro e w1 ⟨rfl, hb⟩; have hc := cell_of_set hb; have hd := hid (below_of_set hb); clear hb)
    go_ret
    exact ⟨rfl, hd.out⟩
  | at_ p n => exact he.elim
end Go.Proofs.YtcgjacffemjehaaDoor

namespace Go.Proofs.YtcgjacffemjehaaDoor
open Go.RowKit
open Go.Proofs.YtcgjacffemjehaaDoorW.PrintWords (Kd rdOf results_ct)
open Go.Proofs.YtcgjacffemjehaaDoor.PRowReads
set_option linter.unusedVariables false
/-- A row of nothing, as cells. -/
def rowZ : Array Value := #[.int .i64 0, .string ⟨#[]⟩, .string ⟨#[]⟩, .slice none 0 0, .string ⟨#[]⟩, .string ⟨#[]⟩, .string ⟨#[]⟩, .string ⟨#[]⟩, .slice none 0 0, .string ⟨#[]⟩, .bool false, .bool false, .int .i64 0, .string ⟨#[]⟩, .string ⟨#[]⟩, .string ⟨#[]⟩, .slice none 0 0, .int .i64 0, .int .i64 0, .bool false, .string ⟨#[]⟩, .string ⟨#[]⟩, .int .i64 0, .string ⟨#[]⟩, .string ⟨#[]⟩, .string ⟨#[]⟩, .string ⟨#[]⟩, .string ⟨#[]⟩, .slice none 0 0, .slice none 0 0, .int .i64 0, .int .i64 0, .bool false, .string ⟨#[]⟩, .string ⟨#[]⟩, .string ⟨#[]⟩, .string ⟨#[]⟩, .slice none 0 0, .string ⟨#[]⟩, .string ⟨#[]⟩, .string ⟨#[]⟩, .slice none 0 0, .string ⟨#[]⟩, .int .i64 0, .bool false, .slice none 0 0]
/-- A row of nothing but its kind, as cells. -/
def rowK (k : Int) : Array Value := #[.int .i64 k, .string ⟨#[]⟩, .string ⟨#[]⟩, .slice none 0 0, .string ⟨#[]⟩, .string ⟨#[]⟩, .string ⟨#[]⟩, .string ⟨#[]⟩, .slice none 0 0, .string ⟨#[]⟩, .bool false, .bool false, .int .i64 0, .string ⟨#[]⟩, .string ⟨#[]⟩, .string ⟨#[]⟩, .slice none 0 0, .int .i64 0, .int .i64 0, .bool false, .string ⟨#[]⟩, .string ⟨#[]⟩, .int .i64 0, .string ⟨#[]⟩, .string ⟨#[]⟩, .string ⟨#[]⟩, .string ⟨#[]⟩, .string ⟨#[]⟩, .slice none 0 0, .slice none 0 0, .int .i64 0, .int .i64 0, .bool false, .string ⟨#[]⟩, .string ⟨#[]⟩, .string ⟨#[]⟩, .string ⟨#[]⟩, .slice none 0 0, .string ⟨#[]⟩, .string ⟨#[]⟩, .string ⟨#[]⟩, .slice none 0 0, .string ⟨#[]⟩, .int .i64 0, .bool false, .slice none 0 0]
theorem rowZ_size : rowZ.size = 46 := by kernel_rfl
theorem rowK_size (k : Int) : (rowK k).size = 46 := by kernel_rfl
theorem rowInfo : (Tryd.prog.info? 41).map (·.size) = some 46 := by kernel_rfl
theorem run_allocRow (ρ : Operand → Value) (o : Oper) (ho : o.op = .alloc 41) (w : World) : (execOp ρ o).run Tryd.prog w = .ok (.value (.pointer (some ⟨w.heap.size, 0, none⟩))) (w.alloc (.cells rowZ 41)) := by
  unfold execOp
  rw [ho]
  kernel_rfl
theorem wpList_store_new {P : Program} {ops : Array Oper} {rest : List Oper} {o : Oper} {a : Act} {w : World} {Q : Exit → Act → World → Prop} (hgd : o.guard = none) (ty : TypeId) (x y : Operand) (ho : o.op = .store ty x y)
    (hd : o.dst = none) (W : World) (T : TypeId) (old cells : Array Value) (hw : w = W.alloc (.cells old T)) (hx : a.eval x = .pointer (some ⟨W.heap.size, 0, none⟩)) (hy : a.eval y = .agg cells)
    (hi : (P.info? ty).map (·.size) = some cells.size) (hold : old.size = cells.size) (h1 : cells.all (·.oneCell') = true)
    (h : wpList P ops Q rest a (W.alloc (.cells cells T))) : wpList P ops Q (o :: rest) a w := by
  subst hw
  refine wpList_store_rowTo hgd ty x y ho hd W.heap.size cells hx hy T old (heap_alloc_new W _) hi hold h1 ?_
  rw [World.setRow_alloc_new]
  exact h
theorem wpList_store_at {P : Program} {ops : Array Oper} {rest : List Oper} {o : Oper} {a : Act} {w : World} {Q : Exit → Act → World → Prop} (hgd : o.guard = none) (ty : TypeId) (x y : Operand) (ho : o.op = .store ty x y)
    (hd : o.dst = none) (g : Nat) (T : TypeId) (old cells : Array Value) (hw : AtB w g T old) (hx : a.eval x = .pointer (some ⟨g, 0, none⟩)) (hy : a.eval y = .agg cells)
    (hi : (P.info? ty).map (·.size) = some cells.size) (hold : old.size = cells.size) (h1 : cells.all (·.oneCell') = true)
    (h : wpList P ops Q rest a (w.setRow g cells)) : wpList P ops Q (o :: rest) a w :=
  wpList_store_rowTo hgd ty x y ho hd g cells hx hy T old hw hi hold h1 h
theorem num_errV (w : World) (hg : ErrorType w) (b : Bool) : Calls Tryd.prog 20 #[errV b] w fun e w' => e = .returned (.int .i64 (if b = true then 0 else 170)) ∧ Below w.heap.size w w' := by
  cases b with
  | true => exact num_any .nil .nilIface w hg rfl
  | false => exact num_any (.no 170) _ w hg rfl
theorem mod_setRow (w : World) (g : Nat) (cs : Array Value) : Mod (fun k => k = g) w (w.setRow g cs) :=
  ⟨rfl, rfl, rfl, by simp [World.setRow], fun k hk hn => by simp only [World.setRow, Array.getElem?_modify]; rw [if_neg (fun e => hn e.symm)]⟩
theorem at_setRow {w : World} {g : Nat} {T : TypeId} {old : Array Value} (h : AtB w g T old) (cs : Array Value) : AtB (w.setRow g cs) g T cs := by
  unfold AtB at h ⊢
  simp [World.setRow, Array.getElem?_modify, h]
theorem range_of_below {a b : World} {g : Nat} {l : List Value} (h : Below a.heap.size a b) (hr : a.rangeAt g 0 l) (hg : 0 < l.length) : b.rangeAt g 0 l := by
  have h0 := hr 0 (l[0]'hg) (by simp)
  have hlt := lt_of_cell h0
  intro j v hv
  rw [h.cell (p := ⟨g, 0 + j, none⟩) hlt]
  exact hr j v hv
/-- What read answers: the row x, the number of its error. -/
def ReadPost (x : S41) (ok : Bool) (w : World) (e : Ending) (w' : World) : Prop :=
  ∃ cs, e = .returned (.tuple #[.agg cs.toArray, .int .i64 (if ok = true then 0 else 170)]) ∧ k41.M w' w.heap.size (fun _ => True) x cs ∧ Below w.heap.size w w'
theorem range_of_atB {w : World} {b : Nat} {T : TypeId} {vs : Array Value} (h : AtB w b T vs) : w.rangeAt b 0 vs.toList := fun j v hv => by
  rw [Nat.zero_add, h.cell j]
  simpa using hv
theorem reads_world (w : World) (e : TypeId) (s : ByteArray) : ReadsB (Lib.bytesWorld w e s) (.slice (some ⟨w.heap.size, 0, none⟩) s.data.toList.length (grownCap w s.size 0 e)) s.data.toList := by
  have hl := str_len s
  refine .inr ⟨w.heap.size, 0, grownCap w s.size 0 e, rfl, by rw [hl]; exact grownCap_ge _ _ _ _, fun i hi => ?_⟩
  rw [Nat.zero_add, Lib.bytesWorld_cell w e s i hi]
  rfl
end Go.Proofs.YtcgjacffemjehaaDoor

namespace Go.Proofs.YtcgjacffemjehaaDoor
open Go.RowKit
open Go.Proofs.YtcgjacffemjehaaDoorW.PrintWords (Kd rdOf results_ct)
open Go.Proofs.YtcgjacffemjehaaDoor.PRowReads
set_option linter.unusedVariables false
def rowConsent (y : S25) : S41 := ⟨1, y, z27, z29, z31, z34, z36, z38, []⟩
def rowCode (y : S27) : S41 := ⟨2, z25, y, z29, z31, z34, z36, z38, []⟩
def rowFamily (y : S29) : S41 := ⟨3, z25, z27, y, z31, z34, z36, z38, []⟩
def rowRefresh (y : S31) : S41 := ⟨4, z25, z27, z29, y, z34, z36, z38, []⟩
def rowAccess (y : S34) : S41 := ⟨5, z25, z27, z29, z31, y, z36, z38, []⟩
def rowResource (y : S36) : S41 := ⟨6, z25, z27, z29, z31, z34, y, z38, []⟩
def rowTicket (y : S38) : S41 := ⟨7, z25, z27, z29, z31, z34, z36, y, []⟩
def rowKeysR (y : List S117) : S41 := ⟨8, z25, z27, z29, z31, z34, z36, z38, y⟩
end Go.Proofs.YtcgjacffemjehaaDoor

namespace Go.Proofs.YtcgjacffemjehaaDoor
open Go.RowKit
open Go.Proofs.YtcgjacffemjehaaDoorW.PrintWords (Kd rdOf results_ct)
open Go.Proofs.YtcgjacffemjehaaDoor.PRowReads
set_option linter.unusedVariables false
set_option maxHeartbeats 8000000 in
set_option maxRecDepth 100000 in
theorem unpackConsent_any (w : World) (v : Value) (l : List UInt8) (hr : ReadsB w v l) (hl : l.length ≤ 1099511627776) :
    Calls Tryd.prog 43 #[v, .func (.func 44) #[] #[]] w (UP k25 z25 (unR (consentR l false)) w) := by
  obtain ⟨A9, m9, c9, rfl⟩ := reads_form hr
  have hrs := rs_make (g := w.heap.size + 1 + 1 + 1) (W := (((w.alloc (.cells #[.string ⟨#[]⟩, .string ⟨#[]⟩, .slice none 0 0] 25)).alloc (.cells #[.string ⟨#[]⟩, .string ⟨#[]⟩, .slice none 0 0] 25)).alloc (.cells #[.string ⟨#[]⟩, .string ⟨#[]⟩, .slice none 0 0] 25))) ((((Below.refl _ w).alloc (Nat.le_refl _) _).alloc (by simp) _).alloc (by simp; omega) _) (by simp) hr hl
  have hb0 : AtB ((((w.alloc (.cells #[.string ⟨#[]⟩, .string ⟨#[]⟩, .slice none 0 0] 25)).alloc (.cells #[.string ⟨#[]⟩, .string ⟨#[]⟩, .slice none 0 0] 25)).alloc (.cells #[.string ⟨#[]⟩, .string ⟨#[]⟩, .slice none 0 0] 25)).alloc (.cells #[.slice A9 m9 c9, .bool true, .bool false] 129)) w.heap.size 25 #[.string ⟨#[]⟩, .string ⟨#[]⟩, .slice none 0 0] := (((at_make rfl).alloc _).alloc _).alloc _
  have hb1 : AtB ((((w.alloc (.cells #[.string ⟨#[]⟩, .string ⟨#[]⟩, .slice none 0 0] 25)).alloc (.cells #[.string ⟨#[]⟩, .string ⟨#[]⟩, .slice none 0 0] 25)).alloc (.cells #[.string ⟨#[]⟩, .string ⟨#[]⟩, .slice none 0 0] 25)).alloc (.cells #[.slice A9 m9 c9, .bool true, .bool false] 129)) (w.heap.size + 1) 25 #[.string ⟨#[]⟩, .string ⟨#[]⟩, .slice none 0 0] := ((at_make (by simp)).alloc _).alloc _
  have hb2 : AtB ((((w.alloc (.cells #[.string ⟨#[]⟩, .string ⟨#[]⟩, .slice none 0 0] 25)).alloc (.cells #[.string ⟨#[]⟩, .string ⟨#[]⟩, .slice none 0 0] 25)).alloc (.cells #[.string ⟨#[]⟩, .string ⟨#[]⟩, .slice none 0 0] 25)).alloc (.cells #[.slice A9 m9 c9, .bool true, .bool false] 129)) (w.heap.size + 1 + 1) 25 #[.string ⟨#[]⟩, .string ⟨#[]⟩, .slice none 0 0] := (at_make (by simp)).alloc _
  have h00 : Below w.heap.size w ((((w.alloc (.cells #[.string ⟨#[]⟩, .string ⟨#[]⟩, .slice none 0 0] 25)).alloc (.cells #[.string ⟨#[]⟩, .string ⟨#[]⟩, .slice none 0 0] 25)).alloc (.cells #[.string ⟨#[]⟩, .string ⟨#[]⟩, .slice none 0 0] 25)).alloc (.cells #[.slice A9 m9 c9, .bool true, .bool false] 129)) := hrs.below
  have h01 : ((((w.alloc (.cells #[.string ⟨#[]⟩, .string ⟨#[]⟩, .slice none 0 0] 25)).alloc (.cells #[.string ⟨#[]⟩, .string ⟨#[]⟩, .slice none 0 0] 25)).alloc (.cells #[.string ⟨#[]⟩, .string ⟨#[]⟩, .slice none 0 0] 25)).alloc (.cells #[.slice A9 m9 c9, .bool true, .bool false] 129)).heap.size = w.heap.size + 1 + 1 + 1 + 1 := by simp
  obtain ⟨⟨x, l5, b5⟩, hz⟩ : ∃ z, consentR l false = z := ⟨_, rfl⟩
  have hcall := consent_r hrs hb1 (by omega) (by omega)
  rw [hz] at hcall ⊢
  have HC := hid hcall
  have HB0 := hid hb0
  have HB2 := hid hb2
  have HB := hid h00
  clear hcall hrs hb0 hb1 hb2 h00 hz hr
  go_enter Tryd.func43, Tryd.ntmps43
  go_wp2_with fail
  refine HC.out.mono ?_
  clear HC h01
  intro e w5 hq
  obtain ⟨rfl, h, ⟨cs3, ha, hM⟩, hm⟩ := hq
  rw [World.size_alloc, World.size_alloc, World.size_alloc, World.size_alloc] at hM
  obtain ⟨v2, rfl, g2⟩ := k25_openM hM
  obtain ⟨A2, m2, c2, rfl⟩ := r_form g2
  have hMB := k25.M_bound hM
  have HMM := hid hMB
  clear hM hMB g2
  have hb0 := HB0.out.mod hm (by omega)
  have hb2 := HB2.out.mod hm (by omega)
  have hbb : Below w.heap.size w w5 := HB.out.trans (hm.below (by simp; omega) (fun q e => by omega))
  have hx0 : w5.cell? ⟨w.heap.size + 1, 0, none⟩ = some (.string x.f0) := ha.cell 0
  have hx1 : w5.cell? ⟨w.heap.size + 1, 1, none⟩ = some (.string x.f1) := ha.cell 1
  have hx2 : w5.cell? ⟨w.heap.size + 1, 2, none⟩ = some (.slice A2 m2 c2) := ha.cell 2
  have hn0 : w5.cell? ⟨w.heap.size + 1 + 1, 0, none⟩ = some (.string ⟨#[]⟩) := hb2.cell 0
  have hn1 : w5.cell? ⟨w.heap.size + 1 + 1, 1, none⟩ = some (.string ⟨#[]⟩) := hb2.cell 1
  have hn2 : w5.cell? ⟨w.heap.size + 1 + 1, 2, none⟩ = some (.slice none 0 0) := hb2.cell 2
  have hr0 : w5.cell? ⟨w.heap.size, 0, none⟩ = some (.string ⟨#[]⟩) := hb0.cell 0
  have hf0 := hb0.free 0
  have hr1 : w5.cell? ⟨w.heap.size, 1, none⟩ = some (.string ⟨#[]⟩) := hb0.cell 1
  have hf1 := hb0.free 1
  have hr2 : w5.cell? ⟨w.heap.size, 2, none⟩ = some (.slice none 0 0) := hb0.cell 2
  have hf2 := hb0.free 2
  obtain ⟨v7, hr7, d0, d1, d2, _, _⟩ := h.cells
  obtain ⟨A7, c7, rfl⟩ : ∃ A c, v7 = .slice A l5.length c := by
    rcases hr7 with ⟨rfl, rfl⟩ | ⟨b, o, cap, rfl, _, _⟩ <;> exact ⟨_, _, rfl⟩
  clear HB HB0 HB2
  have HB := hid hbb
  have HB0 := hid hb0
  clear hbb hb0 hb2 ha hm h hr7
  cases b5 with
  | true =>
    · go_wp2
      have q0 : AtB _ w.heap.size 25 #[.string ⟨#[]⟩, .string ⟨#[]⟩, .slice none 0 0] := AtB.set HB0.out 0 (.string ⟨#[]⟩ : Value)
      have q1 : AtB _ w.heap.size 25 #[.string ⟨#[]⟩, .string ⟨#[]⟩, .slice none 0 0] := AtB.set q0 1 (.string ⟨#[]⟩ : Value)
      have q2 : AtB _ w.heap.size 25 #[.string ⟨#[]⟩, .string ⟨#[]⟩, .slice none 0 0] := AtB.set q1 2 (.slice none 0 0 : Value)
      have hres2 := q2
      refine bodyPost_ret (results_ct rfl _ _ w.heap.size 25 #[.string ⟨#[]⟩, .string ⟨#[]⟩, .slice none 0 0] (0, 0) _ rfl hres2 Tryd.underlying25 rfl (by kernel_rfl)) rfl ?_
      rw [show unR (x, l5, true) = none from if_pos (.inl rfl)]
      exact ⟨[.string ⟨#[]⟩, .string ⟨#[]⟩, .slice none 0 0], rfl, (k25_mkM _ _ _ z25 (Kd.R_nil _ _ _ _ _)), (((HB.out.setCell (p := ⟨w.heap.size, 0, none⟩) (Nat.le_refl _) _).setCell (p := ⟨w.heap.size, 1, none⟩) (Nat.le_refl _) _).setCell (p := ⟨w.heap.size, 2, none⟩) (Nat.le_refl _) _)⟩
  | false =>
    by_cases h5 : 0 < l5.length
    · have t1 : decide ((0 : Int) < (l5.length : Int)) = true := decide_eq_true (by omega)
      have t2 : decide (0 < l5.length) = true := decide_eq_true h5
      go_wp2
      have q0 : AtB _ w.heap.size 25 #[.string ⟨#[]⟩, .string ⟨#[]⟩, .slice none 0 0] := AtB.set HB0.out 0 (.string ⟨#[]⟩ : Value)
      have q1 : AtB _ w.heap.size 25 #[.string ⟨#[]⟩, .string ⟨#[]⟩, .slice none 0 0] := AtB.set q0 1 (.string ⟨#[]⟩ : Value)
      have q2 : AtB _ w.heap.size 25 #[.string ⟨#[]⟩, .string ⟨#[]⟩, .slice none 0 0] := AtB.set q1 2 (.slice none 0 0 : Value)
      have hres2 := q2
      refine bodyPost_ret (results_ct rfl _ _ w.heap.size 25 #[.string ⟨#[]⟩, .string ⟨#[]⟩, .slice none 0 0] (0, 0) _ rfl hres2 Tryd.underlying25 rfl (by kernel_rfl)) rfl ?_
      rw [show unR (x, l5, false) = none from if_pos (.inr h5)]
      exact ⟨[.string ⟨#[]⟩, .string ⟨#[]⟩, .slice none 0 0], rfl, (k25_mkM _ _ _ z25 (Kd.R_nil _ _ _ _ _)), (((HB.out.setCell (p := ⟨w.heap.size, 0, none⟩) (Nat.le_refl _) _).setCell (p := ⟨w.heap.size, 1, none⟩) (Nat.le_refl _) _).setCell (p := ⟨w.heap.size, 2, none⟩) (Nat.le_refl _) _)⟩
    · have h50 : l5 = [] := List.eq_nil_of_length_eq_zero (by omega)
      subst h50
      have t1 : decide ((0 : Int) < ((([] : List UInt8).length : Nat) : Int)) = false := rfl
      go_wp2
      have q0 : AtB _ w.heap.size 25 #[.string x.f0, .string ⟨#[]⟩, .slice none 0 0] := AtB.set HB0.out 0 (.string x.f0 : Value)
      have q1 : AtB _ w.heap.size 25 #[.string x.f0, .string x.f1, .slice none 0 0] := AtB.set q0 1 (.string x.f1 : Value)
      have q2 : AtB _ w.heap.size 25 #[.string x.f0, .string x.f1, .slice A2 m2 c2] := AtB.set q1 2 (.slice A2 m2 c2 : Value)
      have hres2 := q2
      refine bodyPost_ret (results_ct rfl _ _ w.heap.size 25 #[.string x.f0, .string x.f1, .slice A2 m2 c2] (0, 0) _ rfl hres2 Tryd.underlying25 rfl (by kernel_rfl)) rfl ?_
      rw [show unR (x, ([] : List UInt8), false) = some x from if_neg (by simp)]
      have hM1 := HMM.out
      exact ⟨[.string x.f0, .string x.f1, .slice A2 m2 c2], rfl, up_mem hM1 (fun q hq => by have := hq.2.1; omega) (by omega) ((((Mod.refl (fun q => q = w.heap.size) w5).setCell ⟨w.heap.size, 0, none⟩ (.string x.f0 : Value) (.inl rfl)).setCell ⟨w.heap.size, 1, none⟩ (.string x.f1 : Value) (.inl rfl)).setCell ⟨w.heap.size, 2, none⟩ (.slice A2 m2 c2 : Value) (.inl rfl)), (((HB.out.setCell (p := ⟨w.heap.size, 0, none⟩) (Nat.le_refl _) _).setCell (p := ⟨w.heap.size, 1, none⟩) (Nat.le_refl _) _).setCell (p := ⟨w.heap.size, 2, none⟩) (Nat.le_refl _) _)⟩
set_option maxHeartbeats 8000000 in
set_option maxRecDepth 100000 in
theorem toConsent_any (w : World) (v : Value) (l : List UInt8) (hr : ReadsB w v l) (hl : l.length ≤ 1099511627776) :
    Calls Tryd.prog 13 #[v] w (UP k25 z25 (unR (consentR l false)) w) := by
  have h00 : Below w.heap.size w (w.alloc (.cells #[.string ⟨#[]⟩, .string ⟨#[]⟩, .slice none 0 0] 25)) := (Below.refl _ w).alloc (Nat.le_refl _) _
  have hb0 : AtB (w.alloc (.cells #[.string ⟨#[]⟩, .string ⟨#[]⟩, .slice none 0 0] 25)) w.heap.size 25 #[.string ⟨#[]⟩, .string ⟨#[]⟩, .slice none 0 0] := at_make rfl
  obtain ⟨o, ho⟩ : ∃ o, unR (consentR l false) = o := ⟨_, rfl⟩
  have hcall := unpackConsent_any (w.alloc (.cells #[.string ⟨#[]⟩, .string ⟨#[]⟩, .slice none 0 0] 25)) v l (hr.below h00) hl
  rw [ho] at hcall ⊢
  have HC := hid hcall
  have HB0 := hid hb0
  have HB := hid h00
  clear hcall hb0 h00 ho hr
  go_enter Tryd.func13, Tryd.ntmps13
  go_wp2_with (go_at_call 43; refine HC.out.mono ?_)
  clear HC
  intro e w5 hq
  obtain ⟨cs3, rfl, hM, hb⟩ := hq
  rw [World.size_alloc] at hM hb
  obtain ⟨y, hy⟩ : ∃ y, o.getD z25 = y := ⟨_, rfl⟩
  rw [hy] at hM
  have HY := hid hy
  clear hy
  obtain ⟨v2, rfl, g2⟩ := k25_openM hM
  obtain ⟨A2, m2, c2, rfl⟩ := r_form g2
  have hMB := k25.M_bound hM
  have HMM := hid hMB
  clear hM hMB g2
  have hb0 : AtB w5 w.heap.size 25 #[.string ⟨#[]⟩, .string ⟨#[]⟩, .slice none 0 0] := (hb.block w.heap.size (by omega)).trans HB0.out
  have hbb : Below w.heap.size w w5 := HB.out.trans (hb.mono (by omega))
  have hr0 : w5.cell? ⟨w.heap.size, 0, none⟩ = some (.string ⟨#[]⟩) := hb0.cell 0
  have hf0 := hb0.free 0
  have hr1 : w5.cell? ⟨w.heap.size, 1, none⟩ = some (.string ⟨#[]⟩) := hb0.cell 1
  have hf1 := hb0.free 1
  have hr2 : w5.cell? ⟨w.heap.size, 2, none⟩ = some (.slice none 0 0) := hb0.cell 2
  have hf2 := hb0.free 2
  clear HB HB0
  have HB := hid hbb
  have HB0 := hid hb0
  obtain ⟨ev, hev⟩ : ∃ ev, errV o.isSome = ev := ⟨_, rfl⟩
  rw [hev]
  have HEV := hid hev
  clear hbb hb0 hb hev
  go_wp2
  have q0 : AtB _ w.heap.size 25 #[.string y.f0, .string ⟨#[]⟩, .slice none 0 0] := AtB.set HB0.out 0 (.string y.f0 : Value)
  have q1 : AtB _ w.heap.size 25 #[.string y.f0, .string y.f1, .slice none 0 0] := AtB.set q0 1 (.string y.f1 : Value)
  have q2 : AtB _ w.heap.size 25 #[.string y.f0, .string y.f1, .slice A2 m2 c2] := AtB.set q1 2 (.slice A2 m2 c2 : Value)
  have hres2 := q2
  refine bodyPost_ret (results_ct rfl _ _ w.heap.size 25 #[.string y.f0, .string y.f1, .slice A2 m2 c2] (0, 0) _ rfl hres2 Tryd.underlying25 rfl (by kernel_rfl)) rfl ?_
  refine ⟨[.string y.f0, .string y.f1, .slice A2 m2 c2], by rw [HEV.out]; rfl, ?_, (((HB.out.setCell (p := ⟨w.heap.size, 0, none⟩) (Nat.le_refl _) _).setCell (p := ⟨w.heap.size, 1, none⟩) (Nat.le_refl _) _).setCell (p := ⟨w.heap.size, 2, none⟩) (Nat.le_refl _) _)⟩
  rw [HY.out]
  exact up_mem HMM.out (fun q hq => by have := hq.2.1; omega) (by omega) ((((Mod.refl (fun q => q = w.heap.size) w5).setCell ⟨w.heap.size, 0, none⟩ (.string y.f0 : Value) (.inl rfl)).setCell ⟨w.heap.size, 1, none⟩ (.string y.f1 : Value) (.inl rfl)).setCell ⟨w.heap.size, 2, none⟩ (.slice A2 m2 c2 : Value) (.inl rfl))
end Go.Proofs.YtcgjacffemjehaaDoor

namespace Go.Proofs.YtcgjacffemjehaaDoor
open Go.RowKit
open Go.Proofs.YtcgjacffemjehaaDoorW.PrintWords (Kd rdOf results_ct)
open Go.Proofs.YtcgjacffemjehaaDoor.PRowReads
set_option linter.unusedVariables false
set_option maxHeartbeats 8000000 in
set_option maxRecDepth 100000 in
theorem unpackCode_any (w : World) (v : Value) (l : List UInt8) (hr : ReadsB w v l) (hl : l.length ≤ 1099511627776) :
    Calls Tryd.prog 45 #[v, .func (.func 46) #[] #[]] w (UP k27 z27 (unR (codeR l false)) w) := by
  obtain ⟨A9, m9, c9, rfl⟩ := reads_form hr
  have hrs := rs_make (g := w.heap.size + 1 + 1 + 1) (W := (((w.alloc (.cells #[.string ⟨#[]⟩, .string ⟨#[]⟩, .string ⟨#[]⟩, .string ⟨#[]⟩, .slice none 0 0, .string ⟨#[]⟩, .bool false, .bool false, .int .i64 0] 27)).alloc (.cells #[.string ⟨#[]⟩, .string ⟨#[]⟩, .string ⟨#[]⟩, .string ⟨#[]⟩, .slice none 0 0, .string ⟨#[]⟩, .bool false, .bool false, .int .i64 0] 27)).alloc (.cells #[.string ⟨#[]⟩, .string ⟨#[]⟩, .string ⟨#[]⟩, .string ⟨#[]⟩, .slice none 0 0, .string ⟨#[]⟩, .bool false, .bool false, .int .i64 0] 27))) ((((Below.refl _ w).alloc (Nat.le_refl _) _).alloc (by simp) _).alloc (by simp; omega) _) (by simp) hr hl
  have hb0 : AtB ((((w.alloc (.cells #[.string ⟨#[]⟩, .string ⟨#[]⟩, .string ⟨#[]⟩, .string ⟨#[]⟩, .slice none 0 0, .string ⟨#[]⟩, .bool false, .bool false, .int .i64 0] 27)).alloc (.cells #[.string ⟨#[]⟩, .string ⟨#[]⟩, .string ⟨#[]⟩, .string ⟨#[]⟩, .slice none 0 0, .string ⟨#[]⟩, .bool false, .bool false, .int .i64 0] 27)).alloc (.cells #[.string ⟨#[]⟩, .string ⟨#[]⟩, .string ⟨#[]⟩, .string ⟨#[]⟩, .slice none 0 0, .string ⟨#[]⟩, .bool false, .bool false, .int .i64 0] 27)).alloc (.cells #[.slice A9 m9 c9, .bool true, .bool false] 129)) w.heap.size 27 #[.string ⟨#[]⟩, .string ⟨#[]⟩, .string ⟨#[]⟩, .string ⟨#[]⟩, .slice none 0 0, .string ⟨#[]⟩, .bool false, .bool false, .int .i64 0] := (((at_make rfl).alloc _).alloc _).alloc _
  have hb1 : AtB ((((w.alloc (.cells #[.string ⟨#[]⟩, .string ⟨#[]⟩, .string ⟨#[]⟩, .string ⟨#[]⟩, .slice none 0 0, .string ⟨#[]⟩, .bool false, .bool false, .int .i64 0] 27)).alloc (.cells #[.string ⟨#[]⟩, .string ⟨#[]⟩, .string ⟨#[]⟩, .string ⟨#[]⟩, .slice none 0 0, .string ⟨#[]⟩, .bool false, .bool false, .int .i64 0] 27)).alloc (.cells #[.string ⟨#[]⟩, .string ⟨#[]⟩, .string ⟨#[]⟩, .string ⟨#[]⟩, .slice none 0 0, .string ⟨#[]⟩, .bool false, .bool false, .int .i64 0] 27)).alloc (.cells #[.slice A9 m9 c9, .bool true, .bool false] 129)) (w.heap.size + 1) 27 #[.string ⟨#[]⟩, .string ⟨#[]⟩, .string ⟨#[]⟩, .string ⟨#[]⟩, .slice none 0 0, .string ⟨#[]⟩, .bool false, .bool false, .int .i64 0] := ((at_make (by simp)).alloc _).alloc _
  have hb2 : AtB ((((w.alloc (.cells #[.string ⟨#[]⟩, .string ⟨#[]⟩, .string ⟨#[]⟩, .string ⟨#[]⟩, .slice none 0 0, .string ⟨#[]⟩, .bool false, .bool false, .int .i64 0] 27)).alloc (.cells #[.string ⟨#[]⟩, .string ⟨#[]⟩, .string ⟨#[]⟩, .string ⟨#[]⟩, .slice none 0 0, .string ⟨#[]⟩, .bool false, .bool false, .int .i64 0] 27)).alloc (.cells #[.string ⟨#[]⟩, .string ⟨#[]⟩, .string ⟨#[]⟩, .string ⟨#[]⟩, .slice none 0 0, .string ⟨#[]⟩, .bool false, .bool false, .int .i64 0] 27)).alloc (.cells #[.slice A9 m9 c9, .bool true, .bool false] 129)) (w.heap.size + 1 + 1) 27 #[.string ⟨#[]⟩, .string ⟨#[]⟩, .string ⟨#[]⟩, .string ⟨#[]⟩, .slice none 0 0, .string ⟨#[]⟩, .bool false, .bool false, .int .i64 0] := (at_make (by simp)).alloc _
  have h00 : Below w.heap.size w ((((w.alloc (.cells #[.string ⟨#[]⟩, .string ⟨#[]⟩, .string ⟨#[]⟩, .string ⟨#[]⟩, .slice none 0 0, .string ⟨#[]⟩, .bool false, .bool false, .int .i64 0] 27)).alloc (.cells #[.string ⟨#[]⟩, .string ⟨#[]⟩, .string ⟨#[]⟩, .string ⟨#[]⟩, .slice none 0 0, .string ⟨#[]⟩, .bool false, .bool false, .int .i64 0] 27)).alloc (.cells #[.string ⟨#[]⟩, .string ⟨#[]⟩, .string ⟨#[]⟩, .string ⟨#[]⟩, .slice none 0 0, .string ⟨#[]⟩, .bool false, .bool false, .int .i64 0] 27)).alloc (.cells #[.slice A9 m9 c9, .bool true, .bool false] 129)) := hrs.below
  have h01 : ((((w.alloc (.cells #[.string ⟨#[]⟩, .string ⟨#[]⟩, .string ⟨#[]⟩, .string ⟨#[]⟩, .slice none 0 0, .string ⟨#[]⟩, .bool false, .bool false, .int .i64 0] 27)).alloc (.cells #[.string ⟨#[]⟩, .string ⟨#[]⟩, .string ⟨#[]⟩, .string ⟨#[]⟩, .slice none 0 0, .string ⟨#[]⟩, .bool false, .bool false, .int .i64 0] 27)).alloc (.cells #[.string ⟨#[]⟩, .string ⟨#[]⟩, .string ⟨#[]⟩, .string ⟨#[]⟩, .slice none 0 0, .string ⟨#[]⟩, .bool false, .bool false, .int .i64 0] 27)).alloc (.cells #[.slice A9 m9 c9, .bool true, .bool false] 129)).heap.size = w.heap.size + 1 + 1 + 1 + 1 := by simp
  obtain ⟨⟨x, l5, b5⟩, hz⟩ : ∃ z, codeR l false = z := ⟨_, rfl⟩
  have hcall := code_r hrs hb1 (by omega) (by omega)
  rw [hz] at hcall ⊢
  have HC := hid hcall
  have HB0 := hid hb0
  have HB2 := hid hb2
  have HB := hid h00
  clear hcall hrs hb0 hb1 hb2 h00 hz hr
  go_enter Tryd.func45, Tryd.ntmps45
  go_wp2_with fail
  refine HC.out.mono ?_
  clear HC h01
  intro e w5 hq
  obtain ⟨rfl, h, ⟨cs3, ha, hM⟩, hm⟩ := hq
  rw [World.size_alloc, World.size_alloc, World.size_alloc, World.size_alloc] at hM
  obtain ⟨v4, rfl, g4⟩ := k27_openM hM
  obtain ⟨A4, m4, c4, rfl⟩ := r_form g4
  have hMB := k27.M_bound hM
  have HMM := hid hMB
  clear hM hMB g4
  have hb0 := HB0.out.mod hm (by omega)
  have hb2 := HB2.out.mod hm (by omega)
  have hbb : Below w.heap.size w w5 := HB.out.trans (hm.below (by simp; omega) (fun q e => by omega))
  have hx0 : w5.cell? ⟨w.heap.size + 1, 0, none⟩ = some (.string x.f0) := ha.cell 0
  have hx1 : w5.cell? ⟨w.heap.size + 1, 1, none⟩ = some (.string x.f1) := ha.cell 1
  have hx2 : w5.cell? ⟨w.heap.size + 1, 2, none⟩ = some (.string x.f2) := ha.cell 2
  have hx3 : w5.cell? ⟨w.heap.size + 1, 3, none⟩ = some (.string x.f3) := ha.cell 3
  have hx4 : w5.cell? ⟨w.heap.size + 1, 4, none⟩ = some (.slice A4 m4 c4) := ha.cell 4
  have hx5 : w5.cell? ⟨w.heap.size + 1, 5, none⟩ = some (.string x.f5) := ha.cell 5
  have hx6 : w5.cell? ⟨w.heap.size + 1, 6, none⟩ = some (.bool x.f6) := ha.cell 6
  have hx7 : w5.cell? ⟨w.heap.size + 1, 7, none⟩ = some (.bool x.f7) := ha.cell 7
  have hx8 : w5.cell? ⟨w.heap.size + 1, 8, none⟩ = some (.int .i64 x.f8) := ha.cell 8
  have hn0 : w5.cell? ⟨w.heap.size + 1 + 1, 0, none⟩ = some (.string ⟨#[]⟩) := hb2.cell 0
  have hn1 : w5.cell? ⟨w.heap.size + 1 + 1, 1, none⟩ = some (.string ⟨#[]⟩) := hb2.cell 1
  have hn2 : w5.cell? ⟨w.heap.size + 1 + 1, 2, none⟩ = some (.string ⟨#[]⟩) := hb2.cell 2
  have hn3 : w5.cell? ⟨w.heap.size + 1 + 1, 3, none⟩ = some (.string ⟨#[]⟩) := hb2.cell 3
  have hn4 : w5.cell? ⟨w.heap.size + 1 + 1, 4, none⟩ = some (.slice none 0 0) := hb2.cell 4
  have hn5 : w5.cell? ⟨w.heap.size + 1 + 1, 5, none⟩ = some (.string ⟨#[]⟩) := hb2.cell 5
  have hn6 : w5.cell? ⟨w.heap.size + 1 + 1, 6, none⟩ = some (.bool false) := hb2.cell 6
  have hn7 : w5.cell? ⟨w.heap.size + 1 + 1, 7, none⟩ = some (.bool false) := hb2.cell 7
  have hn8 : w5.cell? ⟨w.heap.size + 1 + 1, 8, none⟩ = some (.int .i64 0) := hb2.cell 8
  have hr0 : w5.cell? ⟨w.heap.size, 0, none⟩ = some (.string ⟨#[]⟩) := hb0.cell 0
  have hf0 := hb0.free 0
  have hr1 : w5.cell? ⟨w.heap.size, 1, none⟩ = some (.string ⟨#[]⟩) := hb0.cell 1
  have hf1 := hb0.free 1
  have hr2 : w5.cell? ⟨w.heap.size, 2, none⟩ = some (.string ⟨#[]⟩) := hb0.cell 2
  have hf2 := hb0.free 2
  have hr3 : w5.cell? ⟨w.heap.size, 3, none⟩ = some (.string ⟨#[]⟩) := hb0.cell 3
  have hf3 := hb0.free 3
  have hr4 : w5.cell? ⟨w.heap.size, 4, none⟩ = some (.slice none 0 0) := hb0.cell 4
  have hf4 := hb0.free 4
  have hr5 : w5.cell? ⟨w.heap.size, 5, none⟩ = some (.string ⟨#[]⟩) := hb0.cell 5
  have hf5 := hb0.free 5
  have hr6 : w5.cell? ⟨w.heap.size, 6, none⟩ = some (.bool false) := hb0.cell 6
  have hf6 := hb0.free 6
  have hr7 : w5.cell? ⟨w.heap.size, 7, none⟩ = some (.bool false) := hb0.cell 7
  have hf7 := hb0.free 7
  have hr8 : w5.cell? ⟨w.heap.size, 8, none⟩ = some (.int .i64 0) := hb0.cell 8
  have hf8 := hb0.free 8
  obtain ⟨v7, hr7, d0, d1, d2, _, _⟩ := h.cells
  obtain ⟨A7, c7, rfl⟩ : ∃ A c, v7 = .slice A l5.length c := by
    rcases hr7 with ⟨rfl, rfl⟩ | ⟨b, o, cap, rfl, _, _⟩ <;> exact ⟨_, _, rfl⟩
  clear HB HB0 HB2
  have HB := hid hbb
  have HB0 := hid hb0
  clear hbb hb0 hb2 ha hm h hr7
  cases b5 with
  | true =>
    · go_wp2
      have q0 : AtB _ w.heap.size 27 #[.string ⟨#[]⟩, .string ⟨#[]⟩, .string ⟨#[]⟩, .string ⟨#[]⟩, .slice none 0 0, .string ⟨#[]⟩, .bool false, .bool false, .int .i64 0] := AtB.set HB0.out 0 (.string ⟨#[]⟩ : Value)
      have q1 : AtB _ w.heap.size 27 #[.string ⟨#[]⟩, .string ⟨#[]⟩, .string ⟨#[]⟩, .string ⟨#[]⟩, .slice none 0 0, .string ⟨#[]⟩, .bool false, .bool false, .int .i64 0] := AtB.set q0 1 (.string ⟨#[]⟩ : Value)
      have q2 : AtB _ w.heap.size 27 #[.string ⟨#[]⟩, .string ⟨#[]⟩, .string ⟨#[]⟩, .string ⟨#[]⟩, .slice none 0 0, .string ⟨#[]⟩, .bool false, .bool false, .int .i64 0] := AtB.set q1 2 (.string ⟨#[]⟩ : Value)
      have q3 : AtB _ w.heap.size 27 #[.string ⟨#[]⟩, .string ⟨#[]⟩, .string ⟨#[]⟩, .string ⟨#[]⟩, .slice none 0 0, .string ⟨#[]⟩, .bool false, .bool false, .int .i64 0] := AtB.set q2 3 (.string ⟨#[]⟩ : Value)
      have q4 : AtB _ w.heap.size 27 #[.string ⟨#[]⟩, .string ⟨#[]⟩, .string ⟨#[]⟩, .string ⟨#[]⟩, .slice none 0 0, .string ⟨#[]⟩, .bool false, .bool false, .int .i64 0] := AtB.set q3 4 (.slice none 0 0 : Value)
      have q5 : AtB _ w.heap.size 27 #[.string ⟨#[]⟩, .string ⟨#[]⟩, .string ⟨#[]⟩, .string ⟨#[]⟩, .slice none 0 0, .string ⟨#[]⟩, .bool false, .bool false, .int .i64 0] := AtB.set q4 5 (.string ⟨#[]⟩ : Value)
      have q6 : AtB _ w.heap.size 27 #[.string ⟨#[]⟩, .string ⟨#[]⟩, .string ⟨#[]⟩, .string ⟨#[]⟩, .slice none 0 0, .string ⟨#[]⟩, .bool false, .bool false, .int .i64 0] := AtB.set q5 6 (.bool false : Value)
      have q7 : AtB _ w.heap.size 27 #[.string ⟨#[]⟩, .string ⟨#[]⟩, .string ⟨#[]⟩, .string ⟨#[]⟩, .slice none 0 0, .string ⟨#[]⟩, .bool false, .bool false, .int .i64 0] := AtB.set q6 7 (.bool false : Value)
      have q8 : AtB _ w.heap.size 27 #[.string ⟨#[]⟩, .string ⟨#[]⟩, .string ⟨#[]⟩, .string ⟨#[]⟩, .slice none 0 0, .string ⟨#[]⟩, .bool false, .bool false, .int .i64 0] := AtB.set q7 8 (.int .i64 0 : Value)
      have hres2 := q8
      refine bodyPost_ret (results_ct rfl _ _ w.heap.size 27 #[.string ⟨#[]⟩, .string ⟨#[]⟩, .string ⟨#[]⟩, .string ⟨#[]⟩, .slice none 0 0, .string ⟨#[]⟩, .bool false, .bool false, .int .i64 0] (0, 0) _ rfl hres2 Tryd.underlying27 rfl (by kernel_rfl)) rfl ?_
      rw [show unR (x, l5, true) = none from if_pos (.inl rfl)]
      exact ⟨[.string ⟨#[]⟩, .string ⟨#[]⟩, .string ⟨#[]⟩, .string ⟨#[]⟩, .slice none 0 0, .string ⟨#[]⟩, .bool false, .bool false, .int .i64 0], rfl, (k27_mkM _ _ _ z27 (Kd.R_nil _ _ _ _ _)), (((((((((HB.out.setCell (p := ⟨w.heap.size, 0, none⟩) (Nat.le_refl _) _).setCell (p := ⟨w.heap.size, 1, none⟩) (Nat.le_refl _) _).setCell (p := ⟨w.heap.size, 2, none⟩) (Nat.le_refl _) _).setCell (p := ⟨w.heap.size, 3, none⟩) (Nat.le_refl _) _).setCell (p := ⟨w.heap.size, 4, none⟩) (Nat.le_refl _) _).setCell (p := ⟨w.heap.size, 5, none⟩) (Nat.le_refl _) _).setCell (p := ⟨w.heap.size, 6, none⟩) (Nat.le_refl _) _).setCell (p := ⟨w.heap.size, 7, none⟩) (Nat.le_refl _) _).setCell (p := ⟨w.heap.size, 8, none⟩) (Nat.le_refl _) _)⟩
  | false =>
    by_cases h5 : 0 < l5.length
    · have t1 : decide ((0 : Int) < (l5.length : Int)) = true := decide_eq_true (by omega)
      have t2 : decide (0 < l5.length) = true := decide_eq_true h5
      go_wp2
      have q0 : AtB _ w.heap.size 27 #[.string ⟨#[]⟩, .string ⟨#[]⟩, .string ⟨#[]⟩, .string ⟨#[]⟩, .slice none 0 0, .string ⟨#[]⟩, .bool false, .bool false, .int .i64 0] := AtB.set HB0.out 0 (.string ⟨#[]⟩ : Value)
      have q1 : AtB _ w.heap.size 27 #[.string ⟨#[]⟩, .string ⟨#[]⟩, .string ⟨#[]⟩, .string ⟨#[]⟩, .slice none 0 0, .string ⟨#[]⟩, .bool false, .bool false, .int .i64 0] := AtB.set q0 1 (.string ⟨#[]⟩ : Value)
      have q2 : AtB _ w.heap.size 27 #[.string ⟨#[]⟩, .string ⟨#[]⟩, .string ⟨#[]⟩, .string ⟨#[]⟩, .slice none 0 0, .string ⟨#[]⟩, .bool false, .bool false, .int .i64 0] := AtB.set q1 2 (.string ⟨#[]⟩ : Value)
      have q3 : AtB _ w.heap.size 27 #[.string ⟨#[]⟩, .string ⟨#[]⟩, .string ⟨#[]⟩, .string ⟨#[]⟩, .slice none 0 0, .string ⟨#[]⟩, .bool false, .bool false, .int .i64 0] := AtB.set q2 3 (.string ⟨#[]⟩ : Value)
      have q4 : AtB _ w.heap.size 27 #[.string ⟨#[]⟩, .string ⟨#[]⟩, .string ⟨#[]⟩, .string ⟨#[]⟩, .slice none 0 0, .string ⟨#[]⟩, .bool false, .bool false, .int .i64 0] := AtB.set q3 4 (.slice none 0 0 : Value)
      have q5 : AtB _ w.heap.size 27 #[.string ⟨#[]⟩, .string ⟨#[]⟩, .string ⟨#[]⟩, .string ⟨#[]⟩, .slice none 0 0, .string ⟨#[]⟩, .bool false, .bool false, .int .i64 0] := AtB.set q4 5 (.string ⟨#[]⟩ : Value)
      have q6 : AtB _ w.heap.size 27 #[.string ⟨#[]⟩, .string ⟨#[]⟩, .string ⟨#[]⟩, .string ⟨#[]⟩, .slice none 0 0, .string ⟨#[]⟩, .bool false, .bool false, .int .i64 0] := AtB.set q5 6 (.bool false : Value)
      have q7 : AtB _ w.heap.size 27 #[.string ⟨#[]⟩, .string ⟨#[]⟩, .string ⟨#[]⟩, .string ⟨#[]⟩, .slice none 0 0, .string ⟨#[]⟩, .bool false, .bool false, .int .i64 0] := AtB.set q6 7 (.bool false : Value)
      have q8 : AtB _ w.heap.size 27 #[.string ⟨#[]⟩, .string ⟨#[]⟩, .string ⟨#[]⟩, .string ⟨#[]⟩, .slice none 0 0, .string ⟨#[]⟩, .bool false, .bool false, .int .i64 0] := AtB.set q7 8 (.int .i64 0 : Value)
      have hres2 := q8
      refine bodyPost_ret (results_ct rfl _ _ w.heap.size 27 #[.string ⟨#[]⟩, .string ⟨#[]⟩, .string ⟨#[]⟩, .string ⟨#[]⟩, .slice none 0 0, .string ⟨#[]⟩, .bool false, .bool false, .int .i64 0] (0, 0) _ rfl hres2 Tryd.underlying27 rfl (by kernel_rfl)) rfl ?_
      rw [show unR (x, l5, false) = none from if_pos (.inr h5)]
      exact ⟨[.string ⟨#[]⟩, .string ⟨#[]⟩, .string ⟨#[]⟩, .string ⟨#[]⟩, .slice none 0 0, .string ⟨#[]⟩, .bool false, .bool false, .int .i64 0], rfl, (k27_mkM _ _ _ z27 (Kd.R_nil _ _ _ _ _)), (((((((((HB.out.setCell (p := ⟨w.heap.size, 0, none⟩) (Nat.le_refl _) _).setCell (p := ⟨w.heap.size, 1, none⟩) (Nat.le_refl _) _).setCell (p := ⟨w.heap.size, 2, none⟩) (Nat.le_refl _) _).setCell (p := ⟨w.heap.size, 3, none⟩) (Nat.le_refl _) _).setCell (p := ⟨w.heap.size, 4, none⟩) (Nat.le_refl _) _).setCell (p := ⟨w.heap.size, 5, none⟩) (Nat.le_refl _) _).setCell (p := ⟨w.heap.size, 6, none⟩) (Nat.le_refl _) _).setCell (p := ⟨w.heap.size, 7, none⟩) (Nat.le_refl _) _).setCell (p := ⟨w.heap.size, 8, none⟩) (Nat.le_refl _) _)⟩
    · have h50 : l5 = [] := List.eq_nil_of_length_eq_zero (by omega)
      subst h50
      have t1 : decide ((0 : Int) < ((([] : List UInt8).length : Nat) : Int)) = false := rfl
      go_wp2
      have q0 : AtB _ w.heap.size 27 #[.string x.f0, .string ⟨#[]⟩, .string ⟨#[]⟩, .string ⟨#[]⟩, .slice none 0 0, .string ⟨#[]⟩, .bool false, .bool false, .int .i64 0] := AtB.set HB0.out 0 (.string x.f0 : Value)
      have q1 : AtB _ w.heap.size 27 #[.string x.f0, .string x.f1, .string ⟨#[]⟩, .string ⟨#[]⟩, .slice none 0 0, .string ⟨#[]⟩, .bool false, .bool false, .int .i64 0] := AtB.set q0 1 (.string x.f1 : Value)
      have q2 : AtB _ w.heap.size 27 #[.string x.f0, .string x.f1, .string x.f2, .string ⟨#[]⟩, .slice none 0 0, .string ⟨#[]⟩, .bool false, .bool false, .int .i64 0] := AtB.set q1 2 (.string x.f2 : Value)
      have q3 : AtB _ w.heap.size 27 #[.string x.f0, .string x.f1, .string x.f2, .string x.f3, .slice none 0 0, .string ⟨#[]⟩, .bool false, .bool false, .int .i64 0] := AtB.set q2 3 (.string x.f3 : Value)
      have q4 : AtB _ w.heap.size 27 #[.string x.f0, .string x.f1, .string x.f2, .string x.f3, .slice A4 m4 c4, .string ⟨#[]⟩, .bool false, .bool false, .int .i64 0] := AtB.set q3 4 (.slice A4 m4 c4 : Value)
      have q5 : AtB _ w.heap.size 27 #[.string x.f0, .string x.f1, .string x.f2, .string x.f3, .slice A4 m4 c4, .string x.f5, .bool false, .bool false, .int .i64 0] := AtB.set q4 5 (.string x.f5 : Value)
      have q6 : AtB _ w.heap.size 27 #[.string x.f0, .string x.f1, .string x.f2, .string x.f3, .slice A4 m4 c4, .string x.f5, .bool x.f6, .bool false, .int .i64 0] := AtB.set q5 6 (.bool x.f6 : Value)
      have q7 : AtB _ w.heap.size 27 #[.string x.f0, .string x.f1, .string x.f2, .string x.f3, .slice A4 m4 c4, .string x.f5, .bool x.f6, .bool x.f7, .int .i64 0] := AtB.set q6 7 (.bool x.f7 : Value)
      have q8 : AtB _ w.heap.size 27 #[.string x.f0, .string x.f1, .string x.f2, .string x.f3, .slice A4 m4 c4, .string x.f5, .bool x.f6, .bool x.f7, .int .i64 x.f8] := AtB.set q7 8 (.int .i64 x.f8 : Value)
      have hres2 := q8
      refine bodyPost_ret (results_ct rfl _ _ w.heap.size 27 #[.string x.f0, .string x.f1, .string x.f2, .string x.f3, .slice A4 m4 c4, .string x.f5, .bool x.f6, .bool x.f7, .int .i64 x.f8] (0, 0) _ rfl hres2 Tryd.underlying27 rfl (by kernel_rfl)) rfl ?_
      rw [show unR (x, ([] : List UInt8), false) = some x from if_neg (by simp)]
      have hM1 := HMM.out
      exact ⟨[.string x.f0, .string x.f1, .string x.f2, .string x.f3, .slice A4 m4 c4, .string x.f5, .bool x.f6, .bool x.f7, .int .i64 x.f8], rfl, up_mem hM1 (fun q hq => by have := hq.2.1; omega) (by omega) ((((((((((Mod.refl (fun q => q = w.heap.size) w5).setCell ⟨w.heap.size, 0, none⟩ (.string x.f0 : Value) (.inl rfl)).setCell ⟨w.heap.size, 1, none⟩ (.string x.f1 : Value) (.inl rfl)).setCell ⟨w.heap.size, 2, none⟩ (.string x.f2 : Value) (.inl rfl)).setCell ⟨w.heap.size, 3, none⟩ (.string x.f3 : Value) (.inl rfl)).setCell ⟨w.heap.size, 4, none⟩ (.slice A4 m4 c4 : Value) (.inl rfl)).setCell ⟨w.heap.size, 5, none⟩ (.string x.f5 : Value) (.inl rfl)).setCell ⟨w.heap.size, 6, none⟩ (.bool x.f6 : Value) (.inl rfl)).setCell ⟨w.heap.size, 7, none⟩ (.bool x.f7 : Value) (.inl rfl)).setCell ⟨w.heap.size, 8, none⟩ (.int .i64 x.f8 : Value) (.inl rfl)), (((((((((HB.out.setCell (p := ⟨w.heap.size, 0, none⟩) (Nat.le_refl _) _).setCell (p := ⟨w.heap.size, 1, none⟩) (Nat.le_refl _) _).setCell (p := ⟨w.heap.size, 2, none⟩) (Nat.le_refl _) _).setCell (p := ⟨w.heap.size, 3, none⟩) (Nat.le_refl _) _).setCell (p := ⟨w.heap.size, 4, none⟩) (Nat.le_refl _) _).setCell (p := ⟨w.heap.size, 5, none⟩) (Nat.le_refl _) _).setCell (p := ⟨w.heap.size, 6, none⟩) (Nat.le_refl _) _).setCell (p := ⟨w.heap.size, 7, none⟩) (Nat.le_refl _) _).setCell (p := ⟨w.heap.size, 8, none⟩) (Nat.le_refl _) _)⟩
set_option maxHeartbeats 8000000 in
set_option maxRecDepth 100000 in
theorem toCode_any (w : World) (v : Value) (l : List UInt8) (hr : ReadsB w v l) (hl : l.length ≤ 1099511627776) :
    Calls Tryd.prog 14 #[v] w (UP k27 z27 (unR (codeR l false)) w) := by
  have h00 : Below w.heap.size w (w.alloc (.cells #[.string ⟨#[]⟩, .string ⟨#[]⟩, .string ⟨#[]⟩, .string ⟨#[]⟩, .slice none 0 0, .string ⟨#[]⟩, .bool false, .bool false, .int .i64 0] 27)) := (Below.refl _ w).alloc (Nat.le_refl _) _
  have hb0 : AtB (w.alloc (.cells #[.string ⟨#[]⟩, .string ⟨#[]⟩, .string ⟨#[]⟩, .string ⟨#[]⟩, .slice none 0 0, .string ⟨#[]⟩, .bool false, .bool false, .int .i64 0] 27)) w.heap.size 27 #[.string ⟨#[]⟩, .string ⟨#[]⟩, .string ⟨#[]⟩, .string ⟨#[]⟩, .slice none 0 0, .string ⟨#[]⟩, .bool false, .bool false, .int .i64 0] := at_make rfl
  obtain ⟨o, ho⟩ : ∃ o, unR (codeR l false) = o := ⟨_, rfl⟩
  have hcall := unpackCode_any (w.alloc (.cells #[.string ⟨#[]⟩, .string ⟨#[]⟩, .string ⟨#[]⟩, .string ⟨#[]⟩, .slice none 0 0, .string ⟨#[]⟩, .bool false, .bool false, .int .i64 0] 27)) v l (hr.below h00) hl
  rw [ho] at hcall ⊢
  have HC := hid hcall
  have HB0 := hid hb0
  have HB := hid h00
  clear hcall hb0 h00 ho hr
  go_enter Tryd.func14, Tryd.ntmps14
  go_wp2_with (go_at_call 45; refine HC.out.mono ?_)
  clear HC
  intro e w5 hq
  obtain ⟨cs3, rfl, hM, hb⟩ := hq
  rw [World.size_alloc] at hM hb
  obtain ⟨y, hy⟩ : ∃ y, o.getD z27 = y := ⟨_, rfl⟩
  rw [hy] at hM
  have HY := hid hy
  clear hy
  obtain ⟨v4, rfl, g4⟩ := k27_openM hM
  obtain ⟨A4, m4, c4, rfl⟩ := r_form g4
  have hMB := k27.M_bound hM
  have HMM := hid hMB
  clear hM hMB g4
  have hb0 : AtB w5 w.heap.size 27 #[.string ⟨#[]⟩, .string ⟨#[]⟩, .string ⟨#[]⟩, .string ⟨#[]⟩, .slice none 0 0, .string ⟨#[]⟩, .bool false, .bool false, .int .i64 0] := (hb.block w.heap.size (by omega)).trans HB0.out
  have hbb : Below w.heap.size w w5 := HB.out.trans (hb.mono (by omega))
  have hr0 : w5.cell? ⟨w.heap.size, 0, none⟩ = some (.string ⟨#[]⟩) := hb0.cell 0
  have hf0 := hb0.free 0
  have hr1 : w5.cell? ⟨w.heap.size, 1, none⟩ = some (.string ⟨#[]⟩) := hb0.cell 1
  have hf1 := hb0.free 1
  have hr2 : w5.cell? ⟨w.heap.size, 2, none⟩ = some (.string ⟨#[]⟩) := hb0.cell 2
  have hf2 := hb0.free 2
  have hr3 : w5.cell? ⟨w.heap.size, 3, none⟩ = some (.string ⟨#[]⟩) := hb0.cell 3
  have hf3 := hb0.free 3
  have hr4 : w5.cell? ⟨w.heap.size, 4, none⟩ = some (.slice none 0 0) := hb0.cell 4
  have hf4 := hb0.free 4
  have hr5 : w5.cell? ⟨w.heap.size, 5, none⟩ = some (.string ⟨#[]⟩) := hb0.cell 5
  have hf5 := hb0.free 5
  have hr6 : w5.cell? ⟨w.heap.size, 6, none⟩ = some (.bool false) := hb0.cell 6
  have hf6 := hb0.free 6
  have hr7 : w5.cell? ⟨w.heap.size, 7, none⟩ = some (.bool false) := hb0.cell 7
  have hf7 := hb0.free 7
  have hr8 : w5.cell? ⟨w.heap.size, 8, none⟩ = some (.int .i64 0) := hb0.cell 8
  have hf8 := hb0.free 8
  clear HB HB0
  have HB := hid hbb
  have HB0 := hid hb0
  obtain ⟨ev, hev⟩ : ∃ ev, errV o.isSome = ev := ⟨_, rfl⟩
  rw [hev]
  have HEV := hid hev
  clear hbb hb0 hb hev
  go_wp2
  have q0 : AtB _ w.heap.size 27 #[.string y.f0, .string ⟨#[]⟩, .string ⟨#[]⟩, .string ⟨#[]⟩, .slice none 0 0, .string ⟨#[]⟩, .bool false, .bool false, .int .i64 0] := AtB.set HB0.out 0 (.string y.f0 : Value)
  have q1 : AtB _ w.heap.size 27 #[.string y.f0, .string y.f1, .string ⟨#[]⟩, .string ⟨#[]⟩, .slice none 0 0, .string ⟨#[]⟩, .bool false, .bool false, .int .i64 0] := AtB.set q0 1 (.string y.f1 : Value)
  have q2 : AtB _ w.heap.size 27 #[.string y.f0, .string y.f1, .string y.f2, .string ⟨#[]⟩, .slice none 0 0, .string ⟨#[]⟩, .bool false, .bool false, .int .i64 0] := AtB.set q1 2 (.string y.f2 : Value)
  have q3 : AtB _ w.heap.size 27 #[.string y.f0, .string y.f1, .string y.f2, .string y.f3, .slice none 0 0, .string ⟨#[]⟩, .bool false, .bool false, .int .i64 0] := AtB.set q2 3 (.string y.f3 : Value)
  have q4 : AtB _ w.heap.size 27 #[.string y.f0, .string y.f1, .string y.f2, .string y.f3, .slice A4 m4 c4, .string ⟨#[]⟩, .bool false, .bool false, .int .i64 0] := AtB.set q3 4 (.slice A4 m4 c4 : Value)
  have q5 : AtB _ w.heap.size 27 #[.string y.f0, .string y.f1, .string y.f2, .string y.f3, .slice A4 m4 c4, .string y.f5, .bool false, .bool false, .int .i64 0] := AtB.set q4 5 (.string y.f5 : Value)
  have q6 : AtB _ w.heap.size 27 #[.string y.f0, .string y.f1, .string y.f2, .string y.f3, .slice A4 m4 c4, .string y.f5, .bool y.f6, .bool false, .int .i64 0] := AtB.set q5 6 (.bool y.f6 : Value)
  have q7 : AtB _ w.heap.size 27 #[.string y.f0, .string y.f1, .string y.f2, .string y.f3, .slice A4 m4 c4, .string y.f5, .bool y.f6, .bool y.f7, .int .i64 0] := AtB.set q6 7 (.bool y.f7 : Value)
  have q8 : AtB _ w.heap.size 27 #[.string y.f0, .string y.f1, .string y.f2, .string y.f3, .slice A4 m4 c4, .string y.f5, .bool y.f6, .bool y.f7, .int .i64 y.f8] := AtB.set q7 8 (.int .i64 y.f8 : Value)
  have hres2 := q8
  refine bodyPost_ret (results_ct rfl _ _ w.heap.size 27 #[.string y.f0, .string y.f1, .string y.f2, .string y.f3, .slice A4 m4 c4, .string y.f5, .bool y.f6, .bool y.f7, .int .i64 y.f8] (0, 0) _ rfl hres2 Tryd.underlying27 rfl (by kernel_rfl)) rfl ?_
  refine ⟨[.string y.f0, .string y.f1, .string y.f2, .string y.f3, .slice A4 m4 c4, .string y.f5, .bool y.f6, .bool y.f7, .int .i64 y.f8], by rw [HEV.out]; rfl, ?_, (((((((((HB.out.setCell (p := ⟨w.heap.size, 0, none⟩) (Nat.le_refl _) _).setCell (p := ⟨w.heap.size, 1, none⟩) (Nat.le_refl _) _).setCell (p := ⟨w.heap.size, 2, none⟩) (Nat.le_refl _) _).setCell (p := ⟨w.heap.size, 3, none⟩) (Nat.le_refl _) _).setCell (p := ⟨w.heap.size, 4, none⟩) (Nat.le_refl _) _).setCell (p := ⟨w.heap.size, 5, none⟩) (Nat.le_refl _) _).setCell (p := ⟨w.heap.size, 6, none⟩) (Nat.le_refl _) _).setCell (p := ⟨w.heap.size, 7, none⟩) (Nat.le_refl _) _).setCell (p := ⟨w.heap.size, 8, none⟩) (Nat.le_refl _) _)⟩
  rw [HY.out]
  exact up_mem HMM.out (fun q hq => by have := hq.2.1; omega) (by omega) ((((((((((Mod.refl (fun q => q = w.heap.size) w5).setCell ⟨w.heap.size, 0, none⟩ (.string y.f0 : Value) (.inl rfl)).setCell ⟨w.heap.size, 1, none⟩ (.string y.f1 : Value) (.inl rfl)).setCell ⟨w.heap.size, 2, none⟩ (.string y.f2 : Value) (.inl rfl)).setCell ⟨w.heap.size, 3, none⟩ (.string y.f3 : Value) (.inl rfl)).setCell ⟨w.heap.size, 4, none⟩ (.slice A4 m4 c4 : Value) (.inl rfl)).setCell ⟨w.heap.size, 5, none⟩ (.string y.f5 : Value) (.inl rfl)).setCell ⟨w.heap.size, 6, none⟩ (.bool y.f6 : Value) (.inl rfl)).setCell ⟨w.heap.size, 7, none⟩ (.bool y.f7 : Value) (.inl rfl)).setCell ⟨w.heap.size, 8, none⟩ (.int .i64 y.f8 : Value) (.inl rfl))
end Go.Proofs.YtcgjacffemjehaaDoor

namespace Go.Proofs.YtcgjacffemjehaaDoor
open Go.RowKit
open Go.Proofs.YtcgjacffemjehaaDoorW.PrintWords (Kd rdOf results_ct)
open Go.Proofs.YtcgjacffemjehaaDoor.PRowReads
set_option linter.unusedVariables false
set_option maxHeartbeats 8000000 in
set_option maxRecDepth 100000 in
theorem unpackFamily_any (w : World) (v : Value) (l : List UInt8) (hr : ReadsB w v l) (hl : l.length ≤ 1099511627776) :
    Calls Tryd.prog 47 #[v, .func (.func 48) #[] #[]] w (UP k29 z29 (unR (familyR l false)) w) := by
  obtain ⟨A9, m9, c9, rfl⟩ := reads_form hr
  have hrs := rs_make (g := w.heap.size + 1 + 1 + 1) (W := (((w.alloc (.cells #[.string ⟨#[]⟩, .string ⟨#[]⟩, .string ⟨#[]⟩, .slice none 0 0, .int .i64 0, .int .i64 0, .bool false] 29)).alloc (.cells #[.string ⟨#[]⟩, .string ⟨#[]⟩, .string ⟨#[]⟩, .slice none 0 0, .int .i64 0, .int .i64 0, .bool false] 29)).alloc (.cells #[.string ⟨#[]⟩, .string ⟨#[]⟩, .string ⟨#[]⟩, .slice none 0 0, .int .i64 0, .int .i64 0, .bool false] 29))) ((((Below.refl _ w).alloc (Nat.le_refl _) _).alloc (by simp) _).alloc (by simp; omega) _) (by simp) hr hl
  have hb0 : AtB ((((w.alloc (.cells #[.string ⟨#[]⟩, .string ⟨#[]⟩, .string ⟨#[]⟩, .slice none 0 0, .int .i64 0, .int .i64 0, .bool false] 29)).alloc (.cells #[.string ⟨#[]⟩, .string ⟨#[]⟩, .string ⟨#[]⟩, .slice none 0 0, .int .i64 0, .int .i64 0, .bool false] 29)).alloc (.cells #[.string ⟨#[]⟩, .string ⟨#[]⟩, .string ⟨#[]⟩, .slice none 0 0, .int .i64 0, .int .i64 0, .bool false] 29)).alloc (.cells #[.slice A9 m9 c9, .bool true, .bool false] 129)) w.heap.size 29 #[.string ⟨#[]⟩, .string ⟨#[]⟩, .string ⟨#[]⟩, .slice none 0 0, .int .i64 0, .int .i64 0, .bool false] := (((at_make rfl).alloc _).alloc _).alloc _
  have hb1 : AtB ((((w.alloc (.cells #[.string ⟨#[]⟩, .string ⟨#[]⟩, .string ⟨#[]⟩, .slice none 0 0, .int .i64 0, .int .i64 0, .bool false] 29)).alloc (.cells #[.string ⟨#[]⟩, .string ⟨#[]⟩, .string ⟨#[]⟩, .slice none 0 0, .int .i64 0, .int .i64 0, .bool false] 29)).alloc (.cells #[.string ⟨#[]⟩, .string ⟨#[]⟩, .string ⟨#[]⟩, .slice none 0 0, .int .i64 0, .int .i64 0, .bool false] 29)).alloc (.cells #[.slice A9 m9 c9, .bool true, .bool false] 129)) (w.heap.size + 1) 29 #[.string ⟨#[]⟩, .string ⟨#[]⟩, .string ⟨#[]⟩, .slice none 0 0, .int .i64 0, .int .i64 0, .bool false] := ((at_make (by simp)).alloc _).alloc _
  have hb2 : AtB ((((w.alloc (.cells #[.string ⟨#[]⟩, .string ⟨#[]⟩, .string ⟨#[]⟩, .slice none 0 0, .int .i64 0, .int .i64 0, .bool false] 29)).alloc (.cells #[.string ⟨#[]⟩, .string ⟨#[]⟩, .string ⟨#[]⟩, .slice none 0 0, .int .i64 0, .int .i64 0, .bool false] 29)).alloc (.cells #[.string ⟨#[]⟩, .string ⟨#[]⟩, .string ⟨#[]⟩, .slice none 0 0, .int .i64 0, .int .i64 0, .bool false] 29)).alloc (.cells #[.slice A9 m9 c9, .bool true, .bool false] 129)) (w.heap.size + 1 + 1) 29 #[.string ⟨#[]⟩, .string ⟨#[]⟩, .string ⟨#[]⟩, .slice none 0 0, .int .i64 0, .int .i64 0, .bool false] := (at_make (by simp)).alloc _
  have h00 : Below w.heap.size w ((((w.alloc (.cells #[.string ⟨#[]⟩, .string ⟨#[]⟩, .string ⟨#[]⟩, .slice none 0 0, .int .i64 0, .int .i64 0, .bool false] 29)).alloc (.cells #[.string ⟨#[]⟩, .string ⟨#[]⟩, .string ⟨#[]⟩, .slice none 0 0, .int .i64 0, .int .i64 0, .bool false] 29)).alloc (.cells #[.string ⟨#[]⟩, .string ⟨#[]⟩, .string ⟨#[]⟩, .slice none 0 0, .int .i64 0, .int .i64 0, .bool false] 29)).alloc (.cells #[.slice A9 m9 c9, .bool true, .bool false] 129)) := hrs.below
  have h01 : ((((w.alloc (.cells #[.string ⟨#[]⟩, .string ⟨#[]⟩, .string ⟨#[]⟩, .slice none 0 0, .int .i64 0, .int .i64 0, .bool false] 29)).alloc (.cells #[.string ⟨#[]⟩, .string ⟨#[]⟩, .string ⟨#[]⟩, .slice none 0 0, .int .i64 0, .int .i64 0, .bool false] 29)).alloc (.cells #[.string ⟨#[]⟩, .string ⟨#[]⟩, .string ⟨#[]⟩, .slice none 0 0, .int .i64 0, .int .i64 0, .bool false] 29)).alloc (.cells #[.slice A9 m9 c9, .bool true, .bool false] 129)).heap.size = w.heap.size + 1 + 1 + 1 + 1 := by simp
  obtain ⟨⟨x, l5, b5⟩, hz⟩ : ∃ z, familyR l false = z := ⟨_, rfl⟩
  have hcall := family_r hrs hb1 (by omega) (by omega)
  rw [hz] at hcall ⊢
  have HC := hid hcall
  have HB0 := hid hb0
  have HB2 := hid hb2
  have HB := hid h00
  clear hcall hrs hb0 hb1 hb2 h00 hz hr
  go_enter Tryd.func47, Tryd.ntmps47
  go_wp2_with fail
  refine HC.out.mono ?_
  clear HC h01
  intro e w5 hq
  obtain ⟨rfl, h, ⟨cs3, ha, hM⟩, hm⟩ := hq
  rw [World.size_alloc, World.size_alloc, World.size_alloc, World.size_alloc] at hM
  obtain ⟨v3, rfl, g3⟩ := k29_openM hM
  obtain ⟨A3, m3, c3, rfl⟩ := r_form g3
  have hMB := k29.M_bound hM
  have HMM := hid hMB
  clear hM hMB g3
  have hb0 := HB0.out.mod hm (by omega)
  have hb2 := HB2.out.mod hm (by omega)
  have hbb : Below w.heap.size w w5 := HB.out.trans (hm.below (by simp; omega) (fun q e => by omega))
  have hx0 : w5.cell? ⟨w.heap.size + 1, 0, none⟩ = some (.string x.f0) := ha.cell 0
  have hx1 : w5.cell? ⟨w.heap.size + 1, 1, none⟩ = some (.string x.f1) := ha.cell 1
  have hx2 : w5.cell? ⟨w.heap.size + 1, 2, none⟩ = some (.string x.f2) := ha.cell 2
  have hx3 : w5.cell? ⟨w.heap.size + 1, 3, none⟩ = some (.slice A3 m3 c3) := ha.cell 3
  have hx4 : w5.cell? ⟨w.heap.size + 1, 4, none⟩ = some (.int .i64 x.f4) := ha.cell 4
  have hx5 : w5.cell? ⟨w.heap.size + 1, 5, none⟩ = some (.int .i64 x.f5) := ha.cell 5
  have hx6 : w5.cell? ⟨w.heap.size + 1, 6, none⟩ = some (.bool x.f6) := ha.cell 6
  have hn0 : w5.cell? ⟨w.heap.size + 1 + 1, 0, none⟩ = some (.string ⟨#[]⟩) := hb2.cell 0
  have hn1 : w5.cell? ⟨w.heap.size + 1 + 1, 1, none⟩ = some (.string ⟨#[]⟩) := hb2.cell 1
  have hn2 : w5.cell? ⟨w.heap.size + 1 + 1, 2, none⟩ = some (.string ⟨#[]⟩) := hb2.cell 2
  have hn3 : w5.cell? ⟨w.heap.size + 1 + 1, 3, none⟩ = some (.slice none 0 0) := hb2.cell 3
  have hn4 : w5.cell? ⟨w.heap.size + 1 + 1, 4, none⟩ = some (.int .i64 0) := hb2.cell 4
  have hn5 : w5.cell? ⟨w.heap.size + 1 + 1, 5, none⟩ = some (.int .i64 0) := hb2.cell 5
  have hn6 : w5.cell? ⟨w.heap.size + 1 + 1, 6, none⟩ = some (.bool false) := hb2.cell 6
  have hr0 : w5.cell? ⟨w.heap.size, 0, none⟩ = some (.string ⟨#[]⟩) := hb0.cell 0
  have hf0 := hb0.free 0
  have hr1 : w5.cell? ⟨w.heap.size, 1, none⟩ = some (.string ⟨#[]⟩) := hb0.cell 1
  have hf1 := hb0.free 1
  have hr2 : w5.cell? ⟨w.heap.size, 2, none⟩ = some (.string ⟨#[]⟩) := hb0.cell 2
  have hf2 := hb0.free 2
  have hr3 : w5.cell? ⟨w.heap.size, 3, none⟩ = some (.slice none 0 0) := hb0.cell 3
  have hf3 := hb0.free 3
  have hr4 : w5.cell? ⟨w.heap.size, 4, none⟩ = some (.int .i64 0) := hb0.cell 4
  have hf4 := hb0.free 4
  have hr5 : w5.cell? ⟨w.heap.size, 5, none⟩ = some (.int .i64 0) := hb0.cell 5
  have hf5 := hb0.free 5
  have hr6 : w5.cell? ⟨w.heap.size, 6, none⟩ = some (.bool false) := hb0.cell 6
  have hf6 := hb0.free 6
  obtain ⟨v7, hr7, d0, d1, d2, _, _⟩ := h.cells
  obtain ⟨A7, c7, rfl⟩ : ∃ A c, v7 = .slice A l5.length c := by
    rcases hr7 with ⟨rfl, rfl⟩ | ⟨b, o, cap, rfl, _, _⟩ <;> exact ⟨_, _, rfl⟩
  clear HB HB0 HB2
  have HB := hid hbb
  have HB0 := hid hb0
  clear hbb hb0 hb2 ha hm h hr7
  cases b5 with
  | true =>
    · go_wp2
      have q0 : AtB _ w.heap.size 29 #[.string ⟨#[]⟩, .string ⟨#[]⟩, .string ⟨#[]⟩, .slice none 0 0, .int .i64 0, .int .i64 0, .bool false] := AtB.set HB0.out 0 (.string ⟨#[]⟩ : Value)
      have q1 : AtB _ w.heap.size 29 #[.string ⟨#[]⟩, .string ⟨#[]⟩, .string ⟨#[]⟩, .slice none 0 0, .int .i64 0, .int .i64 0, .bool false] := AtB.set q0 1 (.string ⟨#[]⟩ : Value)
      have q2 : AtB _ w.heap.size 29 #[.string ⟨#[]⟩, .string ⟨#[]⟩, .string ⟨#[]⟩, .slice none 0 0, .int .i64 0, .int .i64 0, .bool false] := AtB.set q1 2 (.string ⟨#[]⟩ : Value)
      have q3 : AtB _ w.heap.size 29 #[.string ⟨#[]⟩, .string ⟨#[]⟩, .string ⟨#[]⟩, .slice none 0 0, .int .i64 0, .int .i64 0, .bool false] := AtB.set q2 3 (.slice none 0 0 : Value)
      have q4 : AtB _ w.heap.size 29 #[.string ⟨#[]⟩, .string ⟨#[]⟩, .string ⟨#[]⟩, .slice none 0 0, .int .i64 0, .int .i64 0, .bool false] := AtB.set q3 4 (.int .i64 0 : Value)
      have q5 : AtB _ w.heap.size 29 #[.string ⟨#[]⟩, .string ⟨#[]⟩, .string ⟨#[]⟩, .slice none 0 0, .int .i64 0, .int .i64 0, .bool false] := AtB.set q4 5 (.int .i64 0 : Value)
      have q6 : AtB _ w.heap.size 29 #[.string ⟨#[]⟩, .string ⟨#[]⟩, .string ⟨#[]⟩, .slice none 0 0, .int .i64 0, .int .i64 0, .bool false] := AtB.set q5 6 (.bool false : Value)
      have hres2 := q6
      refine bodyPost_ret (results_ct rfl _ _ w.heap.size 29 #[.string ⟨#[]⟩, .string ⟨#[]⟩, .string ⟨#[]⟩, .slice none 0 0, .int .i64 0, .int .i64 0, .bool false] (0, 0) _ rfl hres2 Tryd.underlying29 rfl (by kernel_rfl)) rfl ?_
      rw [show unR (x, l5, true) = none from if_pos (.inl rfl)]
      exact ⟨[.string ⟨#[]⟩, .string ⟨#[]⟩, .string ⟨#[]⟩, .slice none 0 0, .int .i64 0, .int .i64 0, .bool false], rfl, (k29_mkM _ _ _ z29 (Kd.R_nil _ _ _ _ _)), (((((((HB.out.setCell (p := ⟨w.heap.size, 0, none⟩) (Nat.le_refl _) _).setCell (p := ⟨w.heap.size, 1, none⟩) (Nat.le_refl _) _).setCell (p := ⟨w.heap.size, 2, none⟩) (Nat.le_refl _) _).setCell (p := ⟨w.heap.size, 3, none⟩) (Nat.le_refl _) _).setCell (p := ⟨w.heap.size, 4, none⟩) (Nat.le_refl _) _).setCell (p := ⟨w.heap.size, 5, none⟩) (Nat.le_refl _) _).setCell (p := ⟨w.heap.size, 6, none⟩) (Nat.le_refl _) _)⟩
  | false =>
    by_cases h5 : 0 < l5.length
    · have t1 : decide ((0 : Int) < (l5.length : Int)) = true := decide_eq_true (by omega)
      have t2 : decide (0 < l5.length) = true := decide_eq_true h5
      go_wp2
      have q0 : AtB _ w.heap.size 29 #[.string ⟨#[]⟩, .string ⟨#[]⟩, .string ⟨#[]⟩, .slice none 0 0, .int .i64 0, .int .i64 0, .bool false] := AtB.set HB0.out 0 (.string ⟨#[]⟩ : Value)
      have q1 : AtB _ w.heap.size 29 #[.string ⟨#[]⟩, .string ⟨#[]⟩, .string ⟨#[]⟩, .slice none 0 0, .int .i64 0, .int .i64 0, .bool false] := AtB.set q0 1 (.string ⟨#[]⟩ : Value)
      have q2 : AtB _ w.heap.size 29 #[.string ⟨#[]⟩, .string ⟨#[]⟩, .string ⟨#[]⟩, .slice none 0 0, .int .i64 0, .int .i64 0, .bool false] := AtB.set q1 2 (.string ⟨#[]⟩ : Value)
      have q3 : AtB _ w.heap.size 29 #[.string ⟨#[]⟩, .string ⟨#[]⟩, .string ⟨#[]⟩, .slice none 0 0, .int .i64 0, .int .i64 0, .bool false] := AtB.set q2 3 (.slice none 0 0 : Value)
      have q4 : AtB _ w.heap.size 29 #[.string ⟨#[]⟩, .string ⟨#[]⟩, .string ⟨#[]⟩, .slice none 0 0, .int .i64 0, .int .i64 0, .bool false] := AtB.set q3 4 (.int .i64 0 : Value)
      have q5 : AtB _ w.heap.size 29 #[.string ⟨#[]⟩, .string ⟨#[]⟩, .string ⟨#[]⟩, .slice none 0 0, .int .i64 0, .int .i64 0, .bool false] := AtB.set q4 5 (.int .i64 0 : Value)
      have q6 : AtB _ w.heap.size 29 #[.string ⟨#[]⟩, .string ⟨#[]⟩, .string ⟨#[]⟩, .slice none 0 0, .int .i64 0, .int .i64 0, .bool false] := AtB.set q5 6 (.bool false : Value)
      have hres2 := q6
      refine bodyPost_ret (results_ct rfl _ _ w.heap.size 29 #[.string ⟨#[]⟩, .string ⟨#[]⟩, .string ⟨#[]⟩, .slice none 0 0, .int .i64 0, .int .i64 0, .bool false] (0, 0) _ rfl hres2 Tryd.underlying29 rfl (by kernel_rfl)) rfl ?_
      rw [show unR (x, l5, false) = none from if_pos (.inr h5)]
      exact ⟨[.string ⟨#[]⟩, .string ⟨#[]⟩, .string ⟨#[]⟩, .slice none 0 0, .int .i64 0, .int .i64 0, .bool false], rfl, (k29_mkM _ _ _ z29 (Kd.R_nil _ _ _ _ _)), (((((((HB.out.setCell (p := ⟨w.heap.size, 0, none⟩) (Nat.le_refl _) _).setCell (p := ⟨w.heap.size, 1, none⟩) (Nat.le_refl _) _).setCell (p := ⟨w.heap.size, 2, none⟩) (Nat.le_refl _) _).setCell (p := ⟨w.heap.size, 3, none⟩) (Nat.le_refl _) _).setCell (p := ⟨w.heap.size, 4, none⟩) (Nat.le_refl _) _).setCell (p := ⟨w.heap.size, 5, none⟩) (Nat.le_refl _) _).setCell (p := ⟨w.heap.size, 6, none⟩) (Nat.le_refl _) _)⟩
    · have h50 : l5 = [] := List.eq_nil_of_length_eq_zero (by omega)
      subst h50
      have t1 : decide ((0 : Int) < ((([] : List UInt8).length : Nat) : Int)) = false := rfl
      go_wp2
      have q0 : AtB _ w.heap.size 29 #[.string x.f0, .string ⟨#[]⟩, .string ⟨#[]⟩, .slice none 0 0, .int .i64 0, .int .i64 0, .bool false] := AtB.set HB0.out 0 (.string x.f0 : Value)
      have q1 : AtB _ w.heap.size 29 #[.string x.f0, .string x.f1, .string ⟨#[]⟩, .slice none 0 0, .int .i64 0, .int .i64 0, .bool false] := AtB.set q0 1 (.string x.f1 : Value)
      have q2 : AtB _ w.heap.size 29 #[.string x.f0, .string x.f1, .string x.f2, .slice none 0 0, .int .i64 0, .int .i64 0, .bool false] := AtB.set q1 2 (.string x.f2 : Value)
      have q3 : AtB _ w.heap.size 29 #[.string x.f0, .string x.f1, .string x.f2, .slice A3 m3 c3, .int .i64 0, .int .i64 0, .bool false] := AtB.set q2 3 (.slice A3 m3 c3 : Value)
      have q4 : AtB _ w.heap.size 29 #[.string x.f0, .string x.f1, .string x.f2, .slice A3 m3 c3, .int .i64 x.f4, .int .i64 0, .bool false] := AtB.set q3 4 (.int .i64 x.f4 : Value)
      have q5 : AtB _ w.heap.size 29 #[.string x.f0, .string x.f1, .string x.f2, .slice A3 m3 c3, .int .i64 x.f4, .int .i64 x.f5, .bool false] := AtB.set q4 5 (.int .i64 x.f5 : Value)
      have q6 : AtB _ w.heap.size 29 #[.string x.f0, .string x.f1, .string x.f2, .slice A3 m3 c3, .int .i64 x.f4, .int .i64 x.f5, .bool x.f6] := AtB.set q5 6 (.bool x.f6 : Value)
      have hres2 := q6
      refine bodyPost_ret (results_ct rfl _ _ w.heap.size 29 #[.string x.f0, .string x.f1, .string x.f2, .slice A3 m3 c3, .int .i64 x.f4, .int .i64 x.f5, .bool x.f6] (0, 0) _ rfl hres2 Tryd.underlying29 rfl (by kernel_rfl)) rfl ?_
      rw [show unR (x, ([] : List UInt8), false) = some x from if_neg (by simp)]
      have hM1 := HMM.out
      exact ⟨[.string x.f0, .string x.f1, .string x.f2, .slice A3 m3 c3, .int .i64 x.f4, .int .i64 x.f5, .bool x.f6], rfl, up_mem hM1 (fun q hq => by have := hq.2.1; omega) (by omega) ((((((((Mod.refl (fun q => q = w.heap.size) w5).setCell ⟨w.heap.size, 0, none⟩ (.string x.f0 : Value) (.inl rfl)).setCell ⟨w.heap.size, 1, none⟩ (.string x.f1 : Value) (.inl rfl)).setCell ⟨w.heap.size, 2, none⟩ (.string x.f2 : Value) (.inl rfl)).setCell ⟨w.heap.size, 3, none⟩ (.slice A3 m3 c3 : Value) (.inl rfl)).setCell ⟨w.heap.size, 4, none⟩ (.int .i64 x.f4 : Value) (.inl rfl)).setCell ⟨w.heap.size, 5, none⟩ (.int .i64 x.f5 : Value) (.inl rfl)).setCell ⟨w.heap.size, 6, none⟩ (.bool x.f6 : Value) (.inl rfl)), (((((((HB.out.setCell (p := ⟨w.heap.size, 0, none⟩) (Nat.le_refl _) _).setCell (p := ⟨w.heap.size, 1, none⟩) (Nat.le_refl _) _).setCell (p := ⟨w.heap.size, 2, none⟩) (Nat.le_refl _) _).setCell (p := ⟨w.heap.size, 3, none⟩) (Nat.le_refl _) _).setCell (p := ⟨w.heap.size, 4, none⟩) (Nat.le_refl _) _).setCell (p := ⟨w.heap.size, 5, none⟩) (Nat.le_refl _) _).setCell (p := ⟨w.heap.size, 6, none⟩) (Nat.le_refl _) _)⟩
set_option maxHeartbeats 8000000 in
set_option maxRecDepth 100000 in
theorem toFamily_any (w : World) (v : Value) (l : List UInt8) (hr : ReadsB w v l) (hl : l.length ≤ 1099511627776) :
    Calls Tryd.prog 15 #[v] w (UP k29 z29 (unR (familyR l false)) w) := by
  have h00 : Below w.heap.size w (w.alloc (.cells #[.string ⟨#[]⟩, .string ⟨#[]⟩, .string ⟨#[]⟩, .slice none 0 0, .int .i64 0, .int .i64 0, .bool false] 29)) := (Below.refl _ w).alloc (Nat.le_refl _) _
  have hb0 : AtB (w.alloc (.cells #[.string ⟨#[]⟩, .string ⟨#[]⟩, .string ⟨#[]⟩, .slice none 0 0, .int .i64 0, .int .i64 0, .bool false] 29)) w.heap.size 29 #[.string ⟨#[]⟩, .string ⟨#[]⟩, .string ⟨#[]⟩, .slice none 0 0, .int .i64 0, .int .i64 0, .bool false] := at_make rfl
  obtain ⟨o, ho⟩ : ∃ o, unR (familyR l false) = o := ⟨_, rfl⟩
  have hcall := unpackFamily_any (w.alloc (.cells #[.string ⟨#[]⟩, .string ⟨#[]⟩, .string ⟨#[]⟩, .slice none 0 0, .int .i64 0, .int .i64 0, .bool false] 29)) v l (hr.below h00) hl
  rw [ho] at hcall ⊢
  have HC := hid hcall
  have HB0 := hid hb0
  have HB := hid h00
  clear hcall hb0 h00 ho hr
  go_enter Tryd.func15, Tryd.ntmps15
  go_wp2_with (go_at_call 47; refine HC.out.mono ?_)
  clear HC
  intro e w5 hq
  obtain ⟨cs3, rfl, hM, hb⟩ := hq
  rw [World.size_alloc] at hM hb
  obtain ⟨y, hy⟩ : ∃ y, o.getD z29 = y := ⟨_, rfl⟩
  rw [hy] at hM
  have HY := hid hy
  clear hy
  obtain ⟨v3, rfl, g3⟩ := k29_openM hM
  obtain ⟨A3, m3, c3, rfl⟩ := r_form g3
  have hMB := k29.M_bound hM
  have HMM := hid hMB
  clear hM hMB g3
  have hb0 : AtB w5 w.heap.size 29 #[.string ⟨#[]⟩, .string ⟨#[]⟩, .string ⟨#[]⟩, .slice none 0 0, .int .i64 0, .int .i64 0, .bool false] := (hb.block w.heap.size (by omega)).trans HB0.out
  have hbb : Below w.heap.size w w5 := HB.out.trans (hb.mono (by omega))
  have hr0 : w5.cell? ⟨w.heap.size, 0, none⟩ = some (.string ⟨#[]⟩) := hb0.cell 0
  have hf0 := hb0.free 0
  have hr1 : w5.cell? ⟨w.heap.size, 1, none⟩ = some (.string ⟨#[]⟩) := hb0.cell 1
  have hf1 := hb0.free 1
  have hr2 : w5.cell? ⟨w.heap.size, 2, none⟩ = some (.string ⟨#[]⟩) := hb0.cell 2
  have hf2 := hb0.free 2
  have hr3 : w5.cell? ⟨w.heap.size, 3, none⟩ = some (.slice none 0 0) := hb0.cell 3
  have hf3 := hb0.free 3
  have hr4 : w5.cell? ⟨w.heap.size, 4, none⟩ = some (.int .i64 0) := hb0.cell 4
  have hf4 := hb0.free 4
  have hr5 : w5.cell? ⟨w.heap.size, 5, none⟩ = some (.int .i64 0) := hb0.cell 5
  have hf5 := hb0.free 5
  have hr6 : w5.cell? ⟨w.heap.size, 6, none⟩ = some (.bool false) := hb0.cell 6
  have hf6 := hb0.free 6
  clear HB HB0
  have HB := hid hbb
  have HB0 := hid hb0
  obtain ⟨ev, hev⟩ : ∃ ev, errV o.isSome = ev := ⟨_, rfl⟩
  rw [hev]
  have HEV := hid hev
  clear hbb hb0 hb hev
  go_wp2
  have q0 : AtB _ w.heap.size 29 #[.string y.f0, .string ⟨#[]⟩, .string ⟨#[]⟩, .slice none 0 0, .int .i64 0, .int .i64 0, .bool false] := AtB.set HB0.out 0 (.string y.f0 : Value)
  have q1 : AtB _ w.heap.size 29 #[.string y.f0, .string y.f1, .string ⟨#[]⟩, .slice none 0 0, .int .i64 0, .int .i64 0, .bool false] := AtB.set q0 1 (.string y.f1 : Value)
  have q2 : AtB _ w.heap.size 29 #[.string y.f0, .string y.f1, .string y.f2, .slice none 0 0, .int .i64 0, .int .i64 0, .bool false] := AtB.set q1 2 (.string y.f2 : Value)
  have q3 : AtB _ w.heap.size 29 #[.string y.f0, .string y.f1, .string y.f2, .slice A3 m3 c3, .int .i64 0, .int .i64 0, .bool false] := AtB.set q2 3 (.slice A3 m3 c3 : Value)
  have q4 : AtB _ w.heap.size 29 #[.string y.f0, .string y.f1, .string y.f2, .slice A3 m3 c3, .int .i64 y.f4, .int .i64 0, .bool false] := AtB.set q3 4 (.int .i64 y.f4 : Value)
  have q5 : AtB _ w.heap.size 29 #[.string y.f0, .string y.f1, .string y.f2, .slice A3 m3 c3, .int .i64 y.f4, .int .i64 y.f5, .bool false] := AtB.set q4 5 (.int .i64 y.f5 : Value)
  have q6 : AtB _ w.heap.size 29 #[.string y.f0, .string y.f1, .string y.f2, .slice A3 m3 c3, .int .i64 y.f4, .int .i64 y.f5, .bool y.f6] := AtB.set q5 6 (.bool y.f6 : Value)
  have hres2 := q6
  refine bodyPost_ret (results_ct rfl _ _ w.heap.size 29 #[.string y.f0, .string y.f1, .string y.f2, .slice A3 m3 c3, .int .i64 y.f4, .int .i64 y.f5, .bool y.f6] (0, 0) _ rfl hres2 Tryd.underlying29 rfl (by kernel_rfl)) rfl ?_
  refine ⟨[.string y.f0, .string y.f1, .string y.f2, .slice A3 m3 c3, .int .i64 y.f4, .int .i64 y.f5, .bool y.f6], by rw [HEV.out]; rfl, ?_, (((((((HB.out.setCell (p := ⟨w.heap.size, 0, none⟩) (Nat.le_refl _) _).setCell (p := ⟨w.heap.size, 1, none⟩) (Nat.le_refl _) _).setCell (p := ⟨w.heap.size, 2, none⟩) (Nat.le_refl _) _).setCell (p := ⟨w.heap.size, 3, none⟩) (Nat.le_refl _) _).setCell (p := ⟨w.heap.size, 4, none⟩) (Nat.le_refl _) _).setCell (p := ⟨w.heap.size, 5, none⟩) (Nat.le_refl _) _).setCell (p := ⟨w.heap.size, 6, none⟩) (Nat.le_refl _) _)⟩
  rw [HY.out]
  exact up_mem HMM.out (fun q hq => by have := hq.2.1; omega) (by omega) ((((((((Mod.refl (fun q => q = w.heap.size) w5).setCell ⟨w.heap.size, 0, none⟩ (.string y.f0 : Value) (.inl rfl)).setCell ⟨w.heap.size, 1, none⟩ (.string y.f1 : Value) (.inl rfl)).setCell ⟨w.heap.size, 2, none⟩ (.string y.f2 : Value) (.inl rfl)).setCell ⟨w.heap.size, 3, none⟩ (.slice A3 m3 c3 : Value) (.inl rfl)).setCell ⟨w.heap.size, 4, none⟩ (.int .i64 y.f4 : Value) (.inl rfl)).setCell ⟨w.heap.size, 5, none⟩ (.int .i64 y.f5 : Value) (.inl rfl)).setCell ⟨w.heap.size, 6, none⟩ (.bool y.f6 : Value) (.inl rfl))
end Go.Proofs.YtcgjacffemjehaaDoor
