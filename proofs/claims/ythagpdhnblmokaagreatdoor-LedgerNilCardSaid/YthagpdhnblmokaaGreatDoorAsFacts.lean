/- errors.As at this program's targets: closed facts on the model's entries for internal/reflectlite. -/
import Derived.Test.YthagpdhnblmokaaGreatDoorBase
import Derived.LaidEql
import Derived.Stop.Asserts
import Derived.RowKitTokens
namespace Go.Proofs.YthagpdhnblmokaaGreatDoor
open Go.RowKit Go.Extern.Stop Go.Stop Go.Extern

abbrev hdl (t : TypeId) : Value := .pointer (some ⟨11, t, none⟩)

theorem Tryz.rlValueOfPErrno (t : Addr) (w : World) : (ReflectliteValue.unpack (.iface 168 (.pointer (some t)))).run Tryz.prog w
    = .ok (.agg #[hdl 168, .pointer (some ⟨w.heap.size, 0, none⟩), .int .u64 150]) (w.alloc (.cells #[.pointer (some t)] 168)) := by kernel_rfl
theorem Tryz.rlValueOfPPFault (t : Addr) (w : World) : (ReflectliteValue.unpack (.iface 178 (.pointer (some t)))).run Tryz.prog w
    = .ok (.agg #[hdl 178, .pointer (some ⟨w.heap.size, 0, none⟩), .int .u64 150]) (w.alloc (.cells #[.pointer (some t)] 178)) := by kernel_rfl
theorem Tryz.rlValueOfPFault (t : Addr) (w : World) : (ReflectliteValue.unpack (.iface 163 (.pointer (some t)))).run Tryz.prog w
    = .ok (.agg #[hdl 163, .pointer (some ⟨w.heap.size, 0, none⟩), .int .u64 150]) (w.alloc (.cells #[.pointer (some t)] 163)) := by kernel_rfl
theorem Tryz.rlValueOfErrno (n : Int) (w : World) : (ReflectliteValue.unpack (.iface 69 (.int .i64 n))).run Tryz.prog w
    = .ok (.agg #[hdl 69, .pointer (some ⟨w.heap.size, 0, none⟩), .int .u64 130]) (w.alloc (.cells #[.int .i64 n] 69)) := by kernel_rfl
theorem Tryz.methodKind (h : Value) (w : World) : (Go.method 450 331 (.agg #[h]) "Kind").run Tryz.prog w = .ok (325, h) w := by kernel_rfl

theorem rlm (z : Sem Value) (f : TypeId → Addr → Nat → Nat → Sem Value) (v : Value) :
    ReflectliteValue.method z f #[v] = (do match ← ReflectliteValue.parts v with | none => z | some (t, a, fl) => f t a fl (fl % 32)) := rfl
theorem rls (v x : Value) : ReflectliteValue.set #[v, x] = (do
    let (some (dst, a, fl), some (src, b, _)) := (← ReflectliteValue.parts v, ← ReflectliteValue.parts x)
      | unsupported (.noEntry "extern/(internal/reflectlite.Value).Set.zeroValue")
    if fl / ReflectliteValue.flagAddr % 2 == 0 then unsupported (.noEntry "extern/(internal/reflectlite.Value).Set.unaddressable")
    let val ← loadVar src b
    if ← Rtype.directlyAssignable dst src then storeVar dst a val
    else if ← Rtype.implements dst src then
      if (← Rtype.kind src) == 20 then
        match val with
        | .nilIface => unsupported (.noEntry "extern/reflectlite: a nil value of one interface type handed on as a value of another")
        | _ => storeVar dst a val
      else storeVar dst a (.iface src val)
    else panicString ("reflectlite.Set: value of type " ++ (← Rtype.spelt src) ++ " is not assignable to type " ++ (← Rtype.spelt dst))
    pure (.tuple #[])) := rfl
theorem Tryz.methodElem (h : Value) (w : World) : (Go.method 450 331 (.agg #[h]) "Elem").run Tryz.prog w = .ok (340, .agg #[h]) w := by kernel_rfl
theorem Tryz.methodImplements (h : Value) (w : World) : (Go.method 450 331 (.agg #[h]) "Implements").run Tryz.prog w = .ok (341, .agg #[h]) w := by kernel_rfl
theorem Tryz.methodAssignableTo (h : Value) (w : World) : (Go.method 450 331 (.agg #[h]) "AssignableTo").run Tryz.prog w = .ok (338, .agg #[h]) w := by kernel_rfl
theorem Tryz.methodUnwrap (a : Addr) (w : World) : (Go.method 450 163 (.pointer (some a)) "Unwrap").run Tryz.prog w = .ok (330, .pointer (some a)) w := by kernel_rfl
theorem Tryz.rlTypeOfErrno (v : Value) (w : World) : (ReflectliteType.typeOf #[.iface 69 v]).run Tryz.prog w = .ok (.iface 331 (.agg #[hdl 69])) w := by kernel_rfl
theorem Tryz.rlTypeOfPFault (v : Value) (w : World) : (ReflectliteType.typeOf #[.iface 163 v]).run Tryz.prog w = .ok (.iface 331 (.agg #[hdl 163])) w := by kernel_rfl

theorem Tryz.rlTypeN (a : Addr) (w : World) : (ReflectliteValue.methodAny (ReflectliteValue.valueError "reflectlite.Value.Type" 0) (fun t _ _ _ => ReflectliteType.toType t) #[.agg #[hdl 168, .pointer (some a), .int .u64 150]]).run Tryz.prog w
    = .ok (.iface 331 (.agg #[hdl 168])) w := by kernel_rfl
theorem Tryz.rlKindPN (w : World) : ((ReflectliteType.abiMethod fun t => (fun a : Nat => Value.int IntKind.u8 (a : Int)) <$> Rtype.kind t) #[hdl 168]).run Tryz.prog w = .ok (.int .u8 22) w := by kernel_rfl
theorem Tryz.rlKindEN (w : World) : ((ReflectliteType.abiMethod fun t => (fun a : Nat => Value.int IntKind.u8 (a : Int)) <$> Rtype.kind t) #[hdl 69]).run Tryz.prog w = .ok (.int .u8 2) w := by kernel_rfl
theorem Tryz.rlPartsPN (a : Addr) (w : World) : (ReflectliteValue.parts (.agg #[hdl 168, .pointer (some a), .int .u64 150])).run Tryz.prog w = .ok (some (168, a, 150)) w := by kernel_rfl
theorem Tryz.rlIsNilN (a p : Addr) (W : World) (ha : W.cell? a = some (.pointer (some p))) :
    (ReflectliteValue.method (ReflectliteValue.valueError "reflectlite.Value.IsNil" 0) ReflectliteValue.isNil #[.agg #[hdl 168, .pointer (some a), .int .u64 150]]).run Tryz.prog W = .ok (.bool false) W := by
  rw [rlm]
  simp only [Sem.run_bind, Tryz.rlPartsPN, Result.andThen]
  simp [ReflectliteValue.isNil, loadVar, isAgg, underlying, Tryz.underlying168, ha, Result.andThen]
theorem Tryz.rlElemN (w : World) : (ReflectliteType.method ReflectliteType.elem #[.agg #[hdl 168]]).run Tryz.prog w = .ok (.iface 331 (.agg #[hdl 69])) w := by kernel_rfl
theorem Tryz.rlImplN (w : World) : (ReflectliteType.relation "Implements" ReflectliteType.implements_ #[.agg #[hdl 69], .iface 331 (.agg #[hdl 67])]).run Tryz.prog w = .ok (.bool true) w := by kernel_rfl
theorem Tryz.rlAssErrnoN (w : World) : (ReflectliteType.relation "AssignableTo" ReflectliteType.assignableTo #[.agg #[hdl 69], .iface 331 (.agg #[hdl 69])]).run Tryz.prog w = .ok (.bool true) w := by kernel_rfl
theorem Tryz.rlAssPFaultN (w : World) : (ReflectliteType.relation "AssignableTo" ReflectliteType.assignableTo #[.agg #[hdl 163], .iface 331 (.agg #[hdl 69])]).run Tryz.prog w = .ok (.bool false) w := by kernel_rfl
theorem Tryz.rlElemOfN (w : World) : (Rtype.elem? 168).run Tryz.prog w = .ok (some 69) w := by kernel_rfl
theorem Tryz.rlMkN (p : Addr) (w : World) : (ReflectliteValue.mk 69 p ReflectliteValue.flagAddr).run Tryz.prog w = .ok (.agg #[hdl 69, .pointer (some p), .int .u64 386]) w := by kernel_rfl
theorem Tryz.rlElemVN (a p : Addr) (W : World) (ha : W.cell? a = some (.pointer (some p))) :
    (ReflectliteValue.method (ReflectliteValue.valueError "reflectlite.Value.Elem" 0) ReflectliteValue.elem #[.agg #[hdl 168, .pointer (some a), .int .u64 150]]).run Tryz.prog W
      = .ok (.agg #[hdl 69, .pointer (some p), .int .u64 386]) W := by
  rw [rlm]
  simp only [Sem.run_bind, Tryz.rlPartsPN, Result.andThen]
  simp [ReflectliteValue.elem, loadVar, isAgg, underlying, Tryz.underlying168, ha, Result.andThen, Tryz.rlElemOfN, Tryz.rlMkN]
theorem Tryz.rlPartsAN (a : Addr) (w : World) : (ReflectliteValue.parts (.agg #[hdl 69, .pointer (some a), .int .u64 386])).run Tryz.prog w = .ok (some (69, a, 386)) w := by kernel_rfl
theorem Tryz.rlPartsEN (a : Addr) (w : World) : (ReflectliteValue.parts (.agg #[hdl 69, .pointer (some a), .int .u64 130])).run Tryz.prog w = .ok (some (69, a, 130)) w := by kernel_rfl
theorem Tryz.rlDirectN (w : World) : (Rtype.directlyAssignable 69 69).run Tryz.prog w = .ok true w := by kernel_rfl
theorem Tryz.rlSetN (ta b : Addr) (old new : Value) (W : World) (hnew : ∃ n : Int, new = .int .i64 n) (hb : W.cell? b = some new) (ht : W.cell? ta = some old) (hf : W.frozen? ta = false) :
    (ReflectliteValue.set #[.agg #[hdl 69, .pointer (some ta), .int .u64 386], .agg #[hdl 69, .pointer (some b), .int .u64 130]]).run Tryz.prog W
      = .ok (.tuple #[]) (W.setCell ta new) := by
  obtain ⟨e, rfl⟩ := hnew
  rw [rls]
  simp only [Sem.run_bind, Tryz.rlPartsAN, Tryz.rlPartsEN, Result.andThen]
  simp [ReflectliteValue.flagAddr, loadVar, isAgg, underlying, Tryz.underlying69, hb, Result.andThen, Tryz.rlDirectN, storeVar, Value.cells, storeCells, Addr.add]
  rw [run_store Tryz.prog W ta _ _ (by rfl)]
  simp [ht, hf]

theorem Tryz.rlTypeF (a : Addr) (w : World) : (ReflectliteValue.methodAny (ReflectliteValue.valueError "reflectlite.Value.Type" 0) (fun t _ _ _ => ReflectliteType.toType t) #[.agg #[hdl 178, .pointer (some a), .int .u64 150]]).run Tryz.prog w
    = .ok (.iface 331 (.agg #[hdl 178])) w := by kernel_rfl
theorem Tryz.rlKindPF (w : World) : ((ReflectliteType.abiMethod fun t => (fun a : Nat => Value.int IntKind.u8 (a : Int)) <$> Rtype.kind t) #[hdl 178]).run Tryz.prog w = .ok (.int .u8 22) w := by kernel_rfl
theorem Tryz.rlKindEF (w : World) : ((ReflectliteType.abiMethod fun t => (fun a : Nat => Value.int IntKind.u8 (a : Int)) <$> Rtype.kind t) #[hdl 163]).run Tryz.prog w = .ok (.int .u8 22) w := by kernel_rfl
theorem Tryz.rlPartsPF (a : Addr) (w : World) : (ReflectliteValue.parts (.agg #[hdl 178, .pointer (some a), .int .u64 150])).run Tryz.prog w = .ok (some (178, a, 150)) w := by kernel_rfl
theorem Tryz.rlIsNilF (a p : Addr) (W : World) (ha : W.cell? a = some (.pointer (some p))) :
    (ReflectliteValue.method (ReflectliteValue.valueError "reflectlite.Value.IsNil" 0) ReflectliteValue.isNil #[.agg #[hdl 178, .pointer (some a), .int .u64 150]]).run Tryz.prog W = .ok (.bool false) W := by
  rw [rlm]
  simp only [Sem.run_bind, Tryz.rlPartsPF, Result.andThen]
  simp [ReflectliteValue.isNil, loadVar, isAgg, underlying, Tryz.underlying178, ha, Result.andThen]
theorem Tryz.rlElemF (w : World) : (ReflectliteType.method ReflectliteType.elem #[.agg #[hdl 178]]).run Tryz.prog w = .ok (.iface 331 (.agg #[hdl 163])) w := by kernel_rfl
theorem Tryz.rlImplF (w : World) : (ReflectliteType.relation "Implements" ReflectliteType.implements_ #[.agg #[hdl 163], .iface 331 (.agg #[hdl 67])]).run Tryz.prog w = .ok (.bool true) w := by kernel_rfl
theorem Tryz.rlAssErrnoF (w : World) : (ReflectliteType.relation "AssignableTo" ReflectliteType.assignableTo #[.agg #[hdl 69], .iface 331 (.agg #[hdl 163])]).run Tryz.prog w = .ok (.bool false) w := by kernel_rfl
theorem Tryz.rlAssPFaultF (w : World) : (ReflectliteType.relation "AssignableTo" ReflectliteType.assignableTo #[.agg #[hdl 163], .iface 331 (.agg #[hdl 163])]).run Tryz.prog w = .ok (.bool true) w := by kernel_rfl
theorem Tryz.rlElemOfF (w : World) : (Rtype.elem? 178).run Tryz.prog w = .ok (some 163) w := by kernel_rfl
theorem Tryz.rlMkF (p : Addr) (w : World) : (ReflectliteValue.mk 163 p ReflectliteValue.flagAddr).run Tryz.prog w = .ok (.agg #[hdl 163, .pointer (some p), .int .u64 406]) w := by kernel_rfl
theorem Tryz.rlElemVF (a p : Addr) (W : World) (ha : W.cell? a = some (.pointer (some p))) :
    (ReflectliteValue.method (ReflectliteValue.valueError "reflectlite.Value.Elem" 0) ReflectliteValue.elem #[.agg #[hdl 178, .pointer (some a), .int .u64 150]]).run Tryz.prog W
      = .ok (.agg #[hdl 163, .pointer (some p), .int .u64 406]) W := by
  rw [rlm]
  simp only [Sem.run_bind, Tryz.rlPartsPF, Result.andThen]
  simp [ReflectliteValue.elem, loadVar, isAgg, underlying, Tryz.underlying178, ha, Result.andThen, Tryz.rlElemOfF, Tryz.rlMkF]
theorem Tryz.rlPartsAF (a : Addr) (w : World) : (ReflectliteValue.parts (.agg #[hdl 163, .pointer (some a), .int .u64 406])).run Tryz.prog w = .ok (some (163, a, 406)) w := by kernel_rfl
theorem Tryz.rlPartsEF (a : Addr) (w : World) : (ReflectliteValue.parts (.agg #[hdl 163, .pointer (some a), .int .u64 150])).run Tryz.prog w = .ok (some (163, a, 150)) w := by kernel_rfl
theorem Tryz.rlDirectF (w : World) : (Rtype.directlyAssignable 163 163).run Tryz.prog w = .ok true w := by kernel_rfl
theorem Tryz.rlSetF (ta b : Addr) (old new : Value) (W : World) (hnew : ∃ e : Addr, new = .pointer (some e)) (hb : W.cell? b = some new) (ht : W.cell? ta = some old) (hf : W.frozen? ta = false) :
    (ReflectliteValue.set #[.agg #[hdl 163, .pointer (some ta), .int .u64 406], .agg #[hdl 163, .pointer (some b), .int .u64 150]]).run Tryz.prog W
      = .ok (.tuple #[]) (W.setCell ta new) := by
  obtain ⟨e, rfl⟩ := hnew
  rw [rls]
  simp only [Sem.run_bind, Tryz.rlPartsAF, Tryz.rlPartsEF, Result.andThen]
  simp [ReflectliteValue.flagAddr, loadVar, isAgg, underlying, Tryz.underlying163, hb, Result.andThen, Tryz.rlDirectF, storeVar, Value.cells, storeCells, Addr.add]
  rw [run_store Tryz.prog W ta _ _ (by rfl)]
  simp [ht, hf]
theorem Tryz.xTypeOf (args : Array Value) (w : World) : (callFunc 215 args).run Tryz.prog w = ((ReflectliteType.typeOf args).run Tryz.prog w).andThen fun v w' => .ok (.value v) w' := @run_callFunc_extern Tryz.prog 215 _ (ReflectliteType.typeOf) Tryz.func215 (by kernel_rfl) (by kernel_rfl) (by kernel_rfl) (by kernel_rfl) args w
theorem Tryz.xAssignable (args : Array Value) (w : World) : (callFunc 338 args).run Tryz.prog w = ((ReflectliteType.relation "AssignableTo" ReflectliteType.assignableTo args).run Tryz.prog w).andThen fun v w' => .ok (.value v) w' := @run_callFunc_extern Tryz.prog 338 _ (ReflectliteType.relation "AssignableTo" ReflectliteType.assignableTo) Tryz.func338 (by kernel_rfl) (by kernel_rfl) (by kernel_rfl) (by kernel_rfl) args w
theorem Tryz.xImplements (args : Array Value) (w : World) : (callFunc 341 args).run Tryz.prog w = ((ReflectliteType.relation "Implements" ReflectliteType.implements_ args).run Tryz.prog w).andThen fun v w' => .ok (.value v) w' := @run_callFunc_extern Tryz.prog 341 _ (ReflectliteType.relation "Implements" ReflectliteType.implements_) Tryz.func341 (by kernel_rfl) (by kernel_rfl) (by kernel_rfl) (by kernel_rfl) args w
theorem Tryz.xElemT (args : Array Value) (w : World) : (callFunc 340 args).run Tryz.prog w = ((ReflectliteType.method ReflectliteType.elem args).run Tryz.prog w).andThen fun v w' => .ok (.value v) w' := @run_callFunc_extern Tryz.prog 340 _ (ReflectliteType.method ReflectliteType.elem) Tryz.func340 (by kernel_rfl) (by kernel_rfl) (by kernel_rfl) (by kernel_rfl) args w
theorem Tryz.xElemV (args : Array Value) (w : World) : (callFunc 216 args).run Tryz.prog w = ((ReflectliteValue.method (ReflectliteValue.valueError "reflectlite.Value.Elem" 0) ReflectliteValue.elem args).run Tryz.prog w).andThen fun v w' => .ok (.value v) w' := @run_callFunc_extern Tryz.prog 216 _ (ReflectliteValue.method (ReflectliteValue.valueError "reflectlite.Value.Elem" 0) ReflectliteValue.elem) Tryz.func216 (by kernel_rfl) (by kernel_rfl) (by kernel_rfl) (by kernel_rfl) args w
theorem Tryz.xSet (args : Array Value) (w : World) : (callFunc 217 args).run Tryz.prog w = ((ReflectliteValue.set args).run Tryz.prog w).andThen fun v w' => .ok (.value v) w' := @run_callFunc_extern Tryz.prog 217 _ (ReflectliteValue.set) Tryz.func217 (by kernel_rfl) (by kernel_rfl) (by kernel_rfl) (by kernel_rfl) args w
theorem Tryz.xValueOf (args : Array Value) (w : World) : (callFunc 153 args).run Tryz.prog w = ((ReflectliteValue.unpack (args.getD 0 (.tuple #[]))).run Tryz.prog w).andThen fun v w' => .ok (.value v) w' := @run_callFunc_extern Tryz.prog 153 _ ((fun args => ReflectliteValue.unpack (args.getD 0 (.tuple #[])))) Tryz.func153 (by kernel_rfl) (by kernel_rfl) (by kernel_rfl) (by kernel_rfl) args w
theorem Tryz.xType (args : Array Value) (w : World) : (callFunc 154 args).run Tryz.prog w = ((ReflectliteValue.methodAny (ReflectliteValue.valueError "reflectlite.Value.Type" 0) (fun t _ _ _ => ReflectliteType.toType t) args).run Tryz.prog w).andThen fun v w' => .ok (.value v) w' := @run_callFunc_extern Tryz.prog 154 _ (ReflectliteValue.methodAny (ReflectliteValue.valueError "reflectlite.Value.Type" 0) (fun t _ _ _ => ReflectliteType.toType t)) Tryz.func154 (by kernel_rfl) (by kernel_rfl) (by kernel_rfl) (by kernel_rfl) args w
theorem Tryz.xIsNil (args : Array Value) (w : World) : (callFunc 155 args).run Tryz.prog w = ((ReflectliteValue.method (ReflectliteValue.valueError "reflectlite.Value.IsNil" 0) ReflectliteValue.isNil args).run Tryz.prog w).andThen fun v w' => .ok (.value v) w' := @run_callFunc_extern Tryz.prog 155 _ (ReflectliteValue.method (ReflectliteValue.valueError "reflectlite.Value.IsNil" 0) ReflectliteValue.isNil) Tryz.func155 (by kernel_rfl) (by kernel_rfl) (by kernel_rfl) (by kernel_rfl) args w
theorem Tryz.xKind (args : Array Value) (w : World) : (callFunc 325 args).run Tryz.prog w = (((ReflectliteType.abiMethod fun t => do pure (.int .u8 (← Rtype.kind t))) args).run Tryz.prog w).andThen fun v w' => .ok (.value v) w' := @run_callFunc_extern Tryz.prog 325 _ (ReflectliteType.abiMethod fun t => do pure (.int .u8 (← Rtype.kind t))) Tryz.func325 (by kernel_rfl) (by kernel_rfl) (by kernel_rfl) (by kernel_rfl) args w
end Go.Proofs.YthagpdhnblmokaaGreatDoor
