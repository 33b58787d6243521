/- Closed facts on the model's entries for internal/reflectlite at this program's types, and three small laws on those that read or write memory. -/
import Derived.Test.YtmlokahphdlgiaaDoorBase
namespace Go.Proofs.YtmlokahphdlgiaaDoor
open Go.RowKit Go.Extern.Stop Go.Stop Go.Extern

theorem valueOf45 (t : Addr) (w : World) : (ReflectliteValue.unpack (.iface 45 (.pointer (some t)))).run Tryd.prog w
    = .ok (.agg #[.pointer (some ⟨4, 45, none⟩), .pointer (some ⟨w.heap.size, 0, none⟩), .int .u64 150]) (w.alloc (.cells #[.pointer (some t)] 45)) := by kernel_rfl
theorem type45 (a : Addr) (w : World) : (ReflectliteValue.methodAny (ReflectliteValue.valueError "reflectlite.Value.Type" 0) (fun t _ _ _ => ReflectliteType.toType t) #[.agg #[.pointer (some ⟨4, 45, none⟩), .pointer (some a), .int .u64 150]]).run Tryd.prog w
    = .ok (.iface 62 (.agg #[.pointer (some ⟨4, 45, none⟩)])) w := by kernel_rfl
theorem methodKind (h : Value) (w : World) : (Go.method 225 62 (.agg #[h]) "Kind").run Tryd.prog w = .ok (38, h) w := by kernel_rfl
theorem kind45 (w : World) : ((ReflectliteType.abiMethod fun t => (fun a : Nat => Value.int IntKind.u8 (a : Int)) <$> Rtype.kind t) #[.pointer (some ⟨4, 45, none⟩)]).run Tryd.prog w = .ok (.int .u8 22) w := by kernel_rfl
theorem kind36 (w : World) : ((ReflectliteType.abiMethod fun t => (fun a : Nat => Value.int IntKind.u8 (a : Int)) <$> Rtype.kind t) #[.pointer (some ⟨4, 36, none⟩)]).run Tryd.prog w = .ok (.int .u8 22) w := by kernel_rfl

theorem rlm (z : Sem Value) (f : TypeId → Addr → Nat → Nat → Sem Value) (v : Value) :
    ReflectliteValue.method z f #[v] = (do match ← ReflectliteValue.parts v with | none => z | some (t, a, fl) => f t a fl (fl % 32)) := rfl
theorem parts45 (a : Addr) (w : World) : (ReflectliteValue.parts (.agg #[.pointer (some ⟨4, 45, none⟩), .pointer (some a), .int .u64 150])).run Tryd.prog w = .ok (some (45, a, 150)) w := by kernel_rfl
/-- (Value).IsNil at the Value of a **fault that is not nil. -/
theorem isNil45 (a p : Addr) (W : World) (ha : W.cell? a = some (.pointer (some p))) :
    (ReflectliteValue.method (ReflectliteValue.valueError "reflectlite.Value.IsNil" 0) ReflectliteValue.isNil #[.agg #[.pointer (some ⟨4, 45, none⟩), .pointer (some a), .int .u64 150]]).run Tryd.prog W = .ok (.bool false) W := by
  rw [rlm]
  simp only [Sem.run_bind, parts45, Result.andThen]
  simp [ReflectliteValue.isNil, loadVar, isAgg, underlying, Tryd.underlying45, ha, Result.andThen]
theorem methodElem (h : Value) (w : World) : (Go.method 225 62 (.agg #[h]) "Elem").run Tryd.prog w = .ok (65, .agg #[h]) w := by kernel_rfl
theorem methodImplements (h : Value) (w : World) : (Go.method 225 62 (.agg #[h]) "Implements").run Tryd.prog w = .ok (66, .agg #[h]) w := by kernel_rfl
theorem methodAssignableTo (h : Value) (w : World) : (Go.method 225 62 (.agg #[h]) "AssignableTo").run Tryd.prog w = .ok (63, .agg #[h]) w := by kernel_rfl
theorem methodComparable (h : Value) (w : World) : (Go.method 225 62 (.agg #[h]) "Comparable").run Tryd.prog w = .ok (64, .agg #[h]) w := by kernel_rfl
theorem elem45 (w : World) : (ReflectliteType.method ReflectliteType.elem #[.agg #[.pointer (some ⟨4, 45, none⟩)]]).run Tryd.prog w = .ok (.iface 62 (.agg #[.pointer (some ⟨4, 36, none⟩)])) w := by kernel_rfl
theorem implements36 (w : World) : (ReflectliteType.relation "Implements" ReflectliteType.implements_ #[.agg #[.pointer (some ⟨4, 36, none⟩)], .iface 62 (.agg #[.pointer (some ⟨4, 26, none⟩)])]).run Tryd.prog w = .ok (.bool true) w := by kernel_rfl
theorem typeOf36 (v : Value) (w : World) : (ReflectliteType.typeOf #[.iface 36 v]).run Tryd.prog w = .ok (.iface 62 (.agg #[.pointer (some ⟨4, 36, none⟩)])) w := by kernel_rfl
theorem typeOf39 (v : Value) (w : World) : (ReflectliteType.typeOf #[.iface 39 v]).run Tryd.prog w = .ok (.iface 62 (.agg #[.pointer (some ⟨4, 39, none⟩)])) w := by kernel_rfl
theorem assignable36 (w : World) : (ReflectliteType.relation "AssignableTo" ReflectliteType.assignableTo #[.agg #[.pointer (some ⟨4, 36, none⟩)], .iface 62 (.agg #[.pointer (some ⟨4, 36, none⟩)])]).run Tryd.prog w = .ok (.bool true) w := by kernel_rfl
theorem assignable39 (w : World) : (ReflectliteType.relation "AssignableTo" ReflectliteType.assignableTo #[.agg #[.pointer (some ⟨4, 39, none⟩)], .iface 62 (.agg #[.pointer (some ⟨4, 36, none⟩)])]).run Tryd.prog w = .ok (.bool false) w := by kernel_rfl
theorem valueOf36 (e : Addr) (w : World) : (ReflectliteValue.unpack (.iface 36 (.pointer (some e)))).run Tryd.prog w
    = .ok (.agg #[.pointer (some ⟨4, 36, none⟩), .pointer (some ⟨w.heap.size, 0, none⟩), .int .u64 150]) (w.alloc (.cells #[.pointer (some e)] 36)) := by kernel_rfl
theorem elemOf45 (w : World) : (Rtype.elem? 45).run Tryd.prog w = .ok (some 36) w := by kernel_rfl
theorem mk36 (p : Addr) (w : World) : (ReflectliteValue.mk 36 p ReflectliteValue.flagAddr).run Tryd.prog w = .ok (.agg #[.pointer (some ⟨4, 36, none⟩), .pointer (some p), .int .u64 406]) w := by kernel_rfl
/-- (Value).Elem at the Value of a **fault that is not nil: the Value of the *fault variable that it points to, addressable. -/
theorem elemV45 (a p : Addr) (W : World) (ha : W.cell? a = some (.pointer (some p))) :
    (ReflectliteValue.method (ReflectliteValue.valueError "reflectlite.Value.Elem" 0) ReflectliteValue.elem #[.agg #[.pointer (some ⟨4, 45, none⟩), .pointer (some a), .int .u64 150]]).run Tryd.prog W
      = .ok (.agg #[.pointer (some ⟨4, 36, none⟩), .pointer (some p), .int .u64 406]) W := by
  rw [rlm]
  simp only [Sem.run_bind, parts45, Result.andThen]
  simp [ReflectliteValue.elem, loadVar, isAgg, underlying, Tryd.underlying45, ha, Result.andThen, elemOf45, mk36]
theorem rls (v x : Value) : ReflectliteValue.set #[v, x] = (do
    let (some (dst, a, fl), some (src, b, _)) := (← ReflectliteValue.parts v, ← ReflectliteValue.parts x)
      | unsupported (.noEntry "extern/(internal/reflectlite.Value).Set.zeroValue")
    if fl / ReflectliteValue.flagAddr % 2 == 0 then unsupported (.noEntry "extern/(internal/reflectlite.Value).Set.unaddressable")
    let val ← loadVar src b
    if ← Rtype.directlyAssignable dst src then storeVar dst a val
    else if ← Rtype.implements dst src then
      if (← Rtype.kind src) == 20 then
        match val with
        | .nilIface => unsupported (.noEntry "extern/reflectlite: a nil value of one interface type handed on as a value of another")
        | _ => storeVar dst a val
      else storeVar dst a (.iface src val)
    else panicString ("reflectlite.Set: value of type " ++ (← Rtype.spelt src) ++ " is not assignable to type " ++ (← Rtype.spelt dst))
    pure (.tuple #[])) := rfl
theorem parts36a (a : Addr) (w : World) : (ReflectliteValue.parts (.agg #[.pointer (some ⟨4, 36, none⟩), .pointer (some a), .int .u64 406])).run Tryd.prog w = .ok (some (36, a, 406)) w := by kernel_rfl
theorem parts36 (a : Addr) (w : World) : (ReflectliteValue.parts (.agg #[.pointer (some ⟨4, 36, none⟩), .pointer (some a), .int .u64 150])).run Tryd.prog w = .ok (some (36, a, 150)) w := by kernel_rfl
theorem direct36 (w : World) : (Rtype.directlyAssignable 36 36).run Tryd.prog w = .ok true w := by kernel_rfl
theorem size36 (w : World) : (sizeOf 36).run Tryd.prog w = .ok 1 w := by kernel_rfl
/-- (Value).Set: the *fault variable at 'ta' gets what the Value's own variable 'b' holds. -/
theorem set36 (ta b e : Addr) (old : Value) (W : World) (hb : W.cell? b = some (.pointer (some e))) (ht : W.cell? ta = some old) (hf : W.frozen? ta = false) :
    (ReflectliteValue.set #[.agg #[.pointer (some ⟨4, 36, none⟩), .pointer (some ta), .int .u64 406], .agg #[.pointer (some ⟨4, 36, none⟩), .pointer (some b), .int .u64 150]]).run Tryd.prog W
      = .ok (.tuple #[]) (W.setCell ta (.pointer (some e))) := by
  rw [rls]
  simp only [Sem.run_bind, parts36a, parts36, Result.andThen]
  simp [ReflectliteValue.flagAddr, loadVar, isAgg, underlying, Tryd.underlying36, hb, Result.andThen, direct36, storeVar, Value.cells, storeCells, Addr.add]
  rw [run_store Tryd.prog W ta _ _ (by rfl)]
  simp [ht, hf]

/-! The assertions: 66: interface { As(any) bool } · 69: interface { Unwrap() error } · 71: interface { Unwrap() []error } · 74: interface { Is(error) bool } -/
theorem noAs36 (v : Value) (x : TypeId) (w : World) : (Instr.typeAssert (.iface 36 v) x 66 true).run Tryd.prog w = .ok (.tuple #[.nilIface, .bool false]) w := run_typeAssert_lacksB Tryd.underlying66 (by kernel_rfl) (by kernel_rfl) v x w
theorem noAs39 (v : Value) (x : TypeId) (w : World) : (Instr.typeAssert (.iface 39 v) x 66 true).run Tryd.prog w = .ok (.tuple #[.nilIface, .bool false]) w := run_typeAssert_lacksB Tryd.underlying66 (by kernel_rfl) (by kernel_rfl) v x w
theorem unwraps39 (v : Value) (x : TypeId) (w : World) : (Instr.typeAssert (.iface 39 v) x 69 true).run Tryd.prog w = .ok (.tuple #[.iface 39 v, .bool true]) w := run_typeAssert_hasB Tryd.underlying69 (by kernel_rfl) v x w
theorem noUnwrap36 (v : Value) (x : TypeId) (w : World) : (Instr.typeAssert (.iface 36 v) x 69 true).run Tryd.prog w = .ok (.tuple #[.nilIface, .bool false]) w := run_typeAssert_lacksB Tryd.underlying69 (by kernel_rfl) (by kernel_rfl) v x w
theorem noUnwraps36 (v : Value) (x : TypeId) (w : World) : (Instr.typeAssert (.iface 36 v) x 71 true).run Tryd.prog w = .ok (.tuple #[.nilIface, .bool false]) w := run_typeAssert_lacksB Tryd.underlying71 (by kernel_rfl) (by kernel_rfl) v x w
theorem is36 (v : Value) (x : TypeId) (w : World) : (Instr.typeAssert (.iface 36 v) x 74 true).run Tryd.prog w = .ok (.tuple #[.iface 36 v, .bool true]) w := run_typeAssert_hasB Tryd.underlying74 (by kernel_rfl) v x w
theorem noIs39 (v : Value) (x : TypeId) (w : World) : (Instr.typeAssert (.iface 39 v) x 74 true).run Tryd.prog w = .ok (.tuple #[.nilIface, .bool false]) w := run_typeAssert_lacksB Tryd.underlying74 (by kernel_rfl) (by kernel_rfl) v x w
theorem methodUnwrap (a : Addr) (w : World) : (Go.method 225 39 (.pointer (some a)) "Unwrap").run Tryd.prog w = .ok (58, .pointer (some a)) w := by kernel_rfl
theorem methodIs (a : Addr) (w : World) : (Go.method 225 36 (.pointer (some a)) "Is").run Tryd.prog w = .ok (42, .pointer (some a)) w := by kernel_rfl
theorem methodError36 (a : Addr) (w : World) : (Go.method 225 36 (.pointer (some a)) "Error").run Tryd.prog w = .ok (41, .pointer (some a)) w := by kernel_rfl
theorem methodError39 (a : Addr) (w : World) : (Go.method 225 39 (.pointer (some a)) "Error").run Tryd.prog w = .ok (57, .pointer (some a)) w := by kernel_rfl
theorem nilAheadUnwrap (a : Addr) (w : World) : (nilAhead 225 39 (.pointer (some a)) "Unwrap").run Tryd.prog w = .ok (some false) w := by kernel_rfl
theorem nilAheadIs (a : Addr) (w : World) : (nilAhead 225 36 (.pointer (some a)) "Is").run Tryd.prog w = .ok (some false) w := by kernel_rfl
theorem nilAheadError36 (a : Addr) (w : World) : (nilAhead 225 36 (.pointer (some a)) "Error").run Tryd.prog w = .ok (some false) w := by kernel_rfl
theorem nilAheadError39 (a : Addr) (w : World) : (nilAhead 225 39 (.pointer (some a)) "Error").run Tryd.prog w = .ok (some false) w := by kernel_rfl
end Go.Proofs.YtmlokahphdlgiaaDoor
