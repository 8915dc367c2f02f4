/-
  errors.As by contract at the two targets that the statements use: *api.Errno and **api.At: an error that is an Errno, an *At (its Unwrap walked), at each target.
-/
import Derived.Test.YtpkiahpdoejbcaaDoorAsFacts
import Derived.Test.YtpkiahpdoejbcaaDoorBase
namespace Go.Proofs.YtpkiahpdoejbcaaDoor
open Go.RowKit Go.Extern.Stop Go.Stop Go.Extern

/-! ### the functions without a body, by name -/
theorem A.xValueOf (args : Array Value) (w : World) : (callFunc 48 args).run Tryd.prog w = (((fun args : Array Value => ReflectliteValue.unpack (args.getD 0 (.tuple #[]))) args).run Tryd.prog w).andThen fun v w' => .ok (.value v) w' :=
  run_callFunc_extern (e := (fun args : Array Value => ReflectliteValue.unpack (args.getD 0 (.tuple #[])))) Tryd.func48 (by kernel_rfl) (by kernel_rfl) (by kernel_rfl) (by kernel_rfl) args w
theorem A.xType (args : Array Value) (w : World) : (callFunc 49 args).run Tryd.prog w = (((ReflectliteValue.methodAny (ReflectliteValue.valueError "reflectlite.Value.Type" 0) (fun t _ _ _ => ReflectliteType.toType t)) args).run Tryd.prog w).andThen fun v w' => .ok (.value v) w' :=
  run_callFunc_extern (e := (ReflectliteValue.methodAny (ReflectliteValue.valueError "reflectlite.Value.Type" 0) (fun t _ _ _ => ReflectliteType.toType t))) Tryd.func49 (by kernel_rfl) (by kernel_rfl) (by kernel_rfl) (by kernel_rfl) args w
theorem A.xIsNil (args : Array Value) (w : World) : (callFunc 50 args).run Tryd.prog w = (((ReflectliteValue.method (ReflectliteValue.valueError "reflectlite.Value.IsNil" 0) ReflectliteValue.isNil) args).run Tryd.prog w).andThen fun v w' => .ok (.value v) w' :=
  run_callFunc_extern (e := (ReflectliteValue.method (ReflectliteValue.valueError "reflectlite.Value.IsNil" 0) ReflectliteValue.isNil)) Tryd.func50 (by kernel_rfl) (by kernel_rfl) (by kernel_rfl) (by kernel_rfl) args w
theorem A.xKind (args : Array Value) (w : World) : (callFunc 102 args).run Tryd.prog w = (((ReflectliteType.abiMethod fun t => do pure (.int .u8 (← Rtype.kind t))) args).run Tryd.prog w).andThen fun v w' => .ok (.value v) w' :=
  run_callFunc_extern (e := (ReflectliteType.abiMethod fun t => do pure (.int .u8 (← Rtype.kind t)))) Tryd.func102 (by kernel_rfl) (by kernel_rfl) (by kernel_rfl) (by kernel_rfl) args w
theorem A.xElem (args : Array Value) (w : World) : (callFunc 115 args).run Tryd.prog w = (((ReflectliteType.method ReflectliteType.elem) args).run Tryd.prog w).andThen fun v w' => .ok (.value v) w' :=
  run_callFunc_extern (e := (ReflectliteType.method ReflectliteType.elem)) Tryd.func115 (by kernel_rfl) (by kernel_rfl) (by kernel_rfl) (by kernel_rfl) args w
theorem A.xImplements (args : Array Value) (w : World) : (callFunc 116 args).run Tryd.prog w = (((ReflectliteType.relation "Implements" ReflectliteType.implements_) args).run Tryd.prog w).andThen fun v w' => .ok (.value v) w' :=
  run_callFunc_extern (e := (ReflectliteType.relation "Implements" ReflectliteType.implements_)) Tryd.func116 (by kernel_rfl) (by kernel_rfl) (by kernel_rfl) (by kernel_rfl) args w
theorem A.xTypeOf (args : Array Value) (w : World) : (callFunc 64 args).run Tryd.prog w = ((ReflectliteType.typeOf args).run Tryd.prog w).andThen fun v w' => .ok (.value v) w' :=
  run_callFunc_extern (e := ReflectliteType.typeOf) Tryd.func64 (by kernel_rfl) (by kernel_rfl) (by kernel_rfl) (by kernel_rfl) args w
theorem A.xAssignableTo (args : Array Value) (w : World) : (callFunc 113 args).run Tryd.prog w = (((ReflectliteType.relation "AssignableTo" ReflectliteType.assignableTo) args).run Tryd.prog w).andThen fun v w' => .ok (.value v) w' :=
  run_callFunc_extern (e := (ReflectliteType.relation "AssignableTo" ReflectliteType.assignableTo)) Tryd.func113 (by kernel_rfl) (by kernel_rfl) (by kernel_rfl) (by kernel_rfl) args w
theorem A.xElemV (args : Array Value) (w : World) : (callFunc 65 args).run Tryd.prog w = (((ReflectliteValue.method (ReflectliteValue.valueError "reflectlite.Value.Elem" 0) ReflectliteValue.elem) args).run Tryd.prog w).andThen fun v w' => .ok (.value v) w' :=
  run_callFunc_extern (e := (ReflectliteValue.method (ReflectliteValue.valueError "reflectlite.Value.Elem" 0) ReflectliteValue.elem)) Tryd.func65 (by kernel_rfl) (by kernel_rfl) (by kernel_rfl) (by kernel_rfl) args w
theorem A.xSet (args : Array Value) (w : World) : (callFunc 66 args).run Tryd.prog w = ((ReflectliteValue.set args).run Tryd.prog w).andThen fun v w' => .ok (.value v) w' :=
  run_callFunc_extern (e := ReflectliteValue.set) Tryd.func66 (by kernel_rfl) (by kernel_rfl) (by kernel_rfl) (by kernel_rfl) args w
attribute [local go_sem] A.xValueOf A.xType A.xIsNil A.xKind A.xElem A.xImplements A.xTypeOf A.xAssignableTo A.xElemV A.xSet A.valueOfPE A.typePE A.valueOfPA A.typePA A.methodKind A.methodElem A.methodImplements A.methodAssignableTo A.methodUnwrap A.kindPE A.kindE A.kindPA A.kindA A.elemPE A.elemPA A.implementsE A.implementsA A.typeOfE A.typeOfA A.assignableEE A.assignableAA A.assignableAE A.assignableEA A.valueOfE A.valueOfA A.noAsA A.noAsE A.unA A.noUnE A.noUnsE

/-- What errors.errorType holds. -/
def ErrorType (w : World) : Prop := w.cell? ⟨0, 0, none⟩ = some (.iface 122 (.agg #[.pointer (some ⟨7, 32, none⟩)]))
set_option maxHeartbeats 2000000 in
/-- errors.As(an Errno, a *Errno): true; the target is it. -/
theorem as_EE (n : Int) (t : Addr) (old : Value) (w : World) (hg : ErrorType w) (ht0 : w.cell? t = some old) (hf0 : w.frozen? t = false) :
    Calls Tryd.prog 35 #[.iface 55 (.int .i64 n), .iface 77 (.pointer (some t))] w fun ev w' => ev = .returned (.bool true) ∧ Below w.heap.size (w.setCell t (.int .i64 n)) w' := by
  unfold ErrorType at hg
  have hlt : 0 < w.heap.size := lt_of_cell hg
  have htl : t.block < w.heap.size := lt_of_cell ht0
  have n8 := A.isNilPE ⟨w.heap.size, 0, none⟩ t ((w.alloc (.cells #[.pointer (some t)] 77)).alloc (.cells #[.pointer (some ⟨7, 77, none⟩), .pointer (some ⟨w.heap.size, 0, none⟩), .int .u64 150] 95)) (by simp)
  have hg2 : ((w.alloc (.cells #[.pointer (some t)] 77)).alloc (.cells #[.pointer (some ⟨7, 77, none⟩), .pointer (some ⟨w.heap.size, 0, none⟩), .int .u64 150] 95)).cell? ⟨0, 0, none⟩ = some (.iface 122 (.agg #[.pointer (some ⟨7, 32, none⟩)])) := by
    rw [World.cell?_alloc_lt _ _ ⟨0, 0, none⟩ (by simp; try omega), World.cell?_alloc_lt _ _ ⟨0, 0, none⟩ hlt]; exact hg
  have el := A.elemVPE ⟨w.heap.size, 0, none⟩ t (((w.alloc (.cells #[.pointer (some t)] 77)).alloc (.cells #[.pointer (some ⟨7, 77, none⟩), .pointer (some ⟨w.heap.size, 0, none⟩), .int .u64 150] 95)).alloc (.cells #[.pointer (some ⟨7, 77, none⟩), .pointer (some ⟨w.heap.size, 0, none⟩), .int .u64 150] 95)) (by rw [World.cell?_alloc_lt _ _ ⟨w.heap.size, 0, none⟩ (by simp; omega)]; simp)
  have st := A.setE t ⟨w.heap.size + 1 + 1 + 1, 0, none⟩ n old ((((w.alloc (.cells #[.pointer (some t)] 77)).alloc (.cells #[.pointer (some ⟨7, 77, none⟩), .pointer (some ⟨w.heap.size, 0, none⟩), .int .u64 150] 95)).alloc (.cells #[.pointer (some ⟨7, 77, none⟩), .pointer (some ⟨w.heap.size, 0, none⟩), .int .u64 150] 95)).alloc (.cells #[.int .i64 n] 55))
    (by rw [World.cell?_alloc_at _ _ _ _ (by simp)]; rfl)
    (by rw [World.cell?_alloc_lt _ _ t (by simp; omega), World.cell?_alloc_lt _ _ t (by simp; omega), World.cell?_alloc_lt _ _ t (by simp; omega), World.cell?_alloc_lt _ _ t htl]; exact ht0)
    (by rw [World.frozen?_alloc_old _ _ t (by simp; omega), World.frozen?_alloc_old _ _ t (by simp; omega), World.frozen?_alloc_old _ _ t (by simp; omega), World.frozen?_alloc_old _ _ t (Nat.ne_of_lt htl)]; exact hf0)
  go_enter Tryd.func35, Tryd.ntmps35
  go_wp2
  refine wp_loop_rounds 1 ?_
  rw [rounds_succ]
  go_wp2
  go_ret
  exact ⟨rfl, below_setCell_both (((((Below.refl _ _).alloc (by simp) _).alloc (by simp; try omega) _).alloc (by simp; try omega) _).alloc (by simp; try omega) _) _ _⟩

set_option maxHeartbeats 2000000 in
/-- errors.As(an *At that holds an Errno, a *Errno): true; the target is the Errno. -/
theorem as_AE (ab ao : Nat) (pos n : Int) (t : Addr) (old : Value) (w : World) (hg : ErrorType w) (ht0 : w.cell? t = some old) (hf0 : w.frozen? t = false)
    (ha : w.cell? ⟨ab, ao, none⟩ = some (.int .i64 pos)) (ha1 : w.cell? ⟨ab, ao + 1, none⟩ = some (.iface 55 (.int .i64 n))) :
    Calls Tryd.prog 35 #[.iface 58 (.pointer (some ⟨ab, ao, none⟩)), .iface 77 (.pointer (some t))] w fun ev w' => ev = .returned (.bool true) ∧ Below w.heap.size (w.setCell t (.int .i64 n)) w' := by
  unfold ErrorType at hg
  have hlt : 0 < w.heap.size := lt_of_cell hg
  have htl : t.block < w.heap.size := lt_of_cell ht0
  have hal : ab < w.heap.size := lt_of_cell ha
  have n8 := A.isNilPE ⟨w.heap.size, 0, none⟩ t ((w.alloc (.cells #[.pointer (some t)] 77)).alloc (.cells #[.pointer (some ⟨7, 77, none⟩), .pointer (some ⟨w.heap.size, 0, none⟩), .int .u64 150] 95)) (by simp)
  have hg2 : ((w.alloc (.cells #[.pointer (some t)] 77)).alloc (.cells #[.pointer (some ⟨7, 77, none⟩), .pointer (some ⟨w.heap.size, 0, none⟩), .int .u64 150] 95)).cell? ⟨0, 0, none⟩ = some (.iface 122 (.agg #[.pointer (some ⟨7, 32, none⟩)])) := by
    rw [World.cell?_alloc_lt _ _ ⟨0, 0, none⟩ (by simp; try omega), World.cell?_alloc_lt _ _ ⟨0, 0, none⟩ hlt]; exact hg
  have n1 : ab < w.heap.size + 1 := by omega
  have n2 : ab < w.heap.size + 1 + 1 := by omega
  have el := A.elemVPE ⟨w.heap.size, 0, none⟩ t (((w.alloc (.cells #[.pointer (some t)] 77)).alloc (.cells #[.pointer (some ⟨7, 77, none⟩), .pointer (some ⟨w.heap.size, 0, none⟩), .int .u64 150] 95)).alloc (.cells #[.pointer (some ⟨7, 77, none⟩), .pointer (some ⟨w.heap.size, 0, none⟩), .int .u64 150] 95)) (by rw [World.cell?_alloc_lt _ _ ⟨w.heap.size, 0, none⟩ (by simp; omega)]; simp)
  have st := A.setE t ⟨w.heap.size + 1 + 1 + 1, 0, none⟩ n old ((((w.alloc (.cells #[.pointer (some t)] 77)).alloc (.cells #[.pointer (some ⟨7, 77, none⟩), .pointer (some ⟨w.heap.size, 0, none⟩), .int .u64 150] 95)).alloc (.cells #[.pointer (some ⟨7, 77, none⟩), .pointer (some ⟨w.heap.size, 0, none⟩), .int .u64 150] 95)).alloc (.cells #[.int .i64 n] 55))
    (by rw [World.cell?_alloc_at _ _ _ _ (by simp)]; rfl)
    (by rw [World.cell?_alloc_lt _ _ t (by simp; omega), World.cell?_alloc_lt _ _ t (by simp; omega), World.cell?_alloc_lt _ _ t (by simp; omega), World.cell?_alloc_lt _ _ t htl]; exact ht0)
    (by rw [World.frozen?_alloc_old _ _ t (by simp; omega), World.frozen?_alloc_old _ _ t (by simp; omega), World.frozen?_alloc_old _ _ t (by simp; omega), World.frozen?_alloc_old _ _ t (Nat.ne_of_lt htl)]; exact hf0)
  go_enter Tryd.func35, Tryd.ntmps35
  go_wp2
  refine wp_loop_rounds 2 ?_
  rw [rounds_succ]
  go_wp2
  rw [rounds_succ]
  go_wp2
  go_ret
  exact ⟨rfl, below_setCell_both (((((Below.refl _ _).alloc (by simp) _).alloc (by simp; try omega) _).alloc (by simp; try omega) _).alloc (by simp; try omega) _) _ _⟩

set_option maxHeartbeats 2000000 in
/-- errors.As(an *At, a **At): true; the target is it. -/
theorem as_AA (a : Addr) (t : Addr) (old : Value) (w : World) (hg : ErrorType w) (ht0 : w.cell? t = some old) (hf0 : w.frozen? t = false) :
    Calls Tryd.prog 35 #[.iface 58 (.pointer (some a)), .iface 78 (.pointer (some t))] w fun ev w' => ev = .returned (.bool true) ∧ Below w.heap.size (w.setCell t (.pointer (some a))) w' := by
  unfold ErrorType at hg
  have hlt : 0 < w.heap.size := lt_of_cell hg
  have htl : t.block < w.heap.size := lt_of_cell ht0
  have n8 := A.isNilPA ⟨w.heap.size, 0, none⟩ t ((w.alloc (.cells #[.pointer (some t)] 78)).alloc (.cells #[.pointer (some ⟨7, 78, none⟩), .pointer (some ⟨w.heap.size, 0, none⟩), .int .u64 150] 95)) (by simp)
  have hg2 : ((w.alloc (.cells #[.pointer (some t)] 78)).alloc (.cells #[.pointer (some ⟨7, 78, none⟩), .pointer (some ⟨w.heap.size, 0, none⟩), .int .u64 150] 95)).cell? ⟨0, 0, none⟩ = some (.iface 122 (.agg #[.pointer (some ⟨7, 32, none⟩)])) := by
    rw [World.cell?_alloc_lt _ _ ⟨0, 0, none⟩ (by simp; try omega), World.cell?_alloc_lt _ _ ⟨0, 0, none⟩ hlt]; exact hg
  have el := A.elemVPA ⟨w.heap.size, 0, none⟩ t (((w.alloc (.cells #[.pointer (some t)] 78)).alloc (.cells #[.pointer (some ⟨7, 78, none⟩), .pointer (some ⟨w.heap.size, 0, none⟩), .int .u64 150] 95)).alloc (.cells #[.pointer (some ⟨7, 78, none⟩), .pointer (some ⟨w.heap.size, 0, none⟩), .int .u64 150] 95)) (by rw [World.cell?_alloc_lt _ _ ⟨w.heap.size, 0, none⟩ (by simp; omega)]; simp)
  have st := A.setA t ⟨w.heap.size + 1 + 1 + 1, 0, none⟩ a old ((((w.alloc (.cells #[.pointer (some t)] 78)).alloc (.cells #[.pointer (some ⟨7, 78, none⟩), .pointer (some ⟨w.heap.size, 0, none⟩), .int .u64 150] 95)).alloc (.cells #[.pointer (some ⟨7, 78, none⟩), .pointer (some ⟨w.heap.size, 0, none⟩), .int .u64 150] 95)).alloc (.cells #[.pointer (some a)] 58))
    (by rw [World.cell?_alloc_at _ _ _ _ (by simp)]; rfl)
    (by rw [World.cell?_alloc_lt _ _ t (by simp; omega), World.cell?_alloc_lt _ _ t (by simp; omega), World.cell?_alloc_lt _ _ t (by simp; omega), World.cell?_alloc_lt _ _ t htl]; exact ht0)
    (by rw [World.frozen?_alloc_old _ _ t (by simp; omega), World.frozen?_alloc_old _ _ t (by simp; omega), World.frozen?_alloc_old _ _ t (by simp; omega), World.frozen?_alloc_old _ _ t (Nat.ne_of_lt htl)]; exact hf0)
  go_enter Tryd.func35, Tryd.ntmps35
  go_wp2
  refine wp_loop_rounds 1 ?_
  rw [rounds_succ]
  go_wp2
  go_ret
  exact ⟨rfl, below_setCell_both (((((Below.refl _ _).alloc (by simp) _).alloc (by simp; try omega) _).alloc (by simp; try omega) _).alloc (by simp; try omega) _) _ _⟩

set_option maxHeartbeats 2000000 in
/-- errors.As(an Errno, a **At): false. -/
theorem as_EA (n : Int) (t : Addr) (old : Value) (w : World) (hg : ErrorType w) (ht0 : w.cell? t = some old) :
    Calls Tryd.prog 35 #[.iface 55 (.int .i64 n), .iface 78 (.pointer (some t))] w fun ev w' => ev = .returned (.bool false) ∧ Below w.heap.size w w' := by
  unfold ErrorType at hg
  have hlt : 0 < w.heap.size := lt_of_cell hg
  have htl : t.block < w.heap.size := lt_of_cell ht0
  have n8 := A.isNilPA ⟨w.heap.size, 0, none⟩ t ((w.alloc (.cells #[.pointer (some t)] 78)).alloc (.cells #[.pointer (some ⟨7, 78, none⟩), .pointer (some ⟨w.heap.size, 0, none⟩), .int .u64 150] 95)) (by simp)
  have hg2 : ((w.alloc (.cells #[.pointer (some t)] 78)).alloc (.cells #[.pointer (some ⟨7, 78, none⟩), .pointer (some ⟨w.heap.size, 0, none⟩), .int .u64 150] 95)).cell? ⟨0, 0, none⟩ = some (.iface 122 (.agg #[.pointer (some ⟨7, 32, none⟩)])) := by
    rw [World.cell?_alloc_lt _ _ ⟨0, 0, none⟩ (by simp; try omega), World.cell?_alloc_lt _ _ ⟨0, 0, none⟩ hlt]; exact hg
  go_enter Tryd.func35, Tryd.ntmps35
  go_wp2
  refine wp_loop_rounds 1 ?_
  rw [rounds_succ]
  go_wp2
  go_ret
  exact ⟨rfl, (((Below.refl _ _).alloc (by simp) _).alloc (by simp; try omega) _).alloc (by simp; try omega) _⟩
end Go.Proofs.YtpkiahpdoejbcaaDoor
