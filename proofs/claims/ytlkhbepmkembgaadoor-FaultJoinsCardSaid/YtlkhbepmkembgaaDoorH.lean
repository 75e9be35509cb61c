/- Faults: closed facts of errors.As at *Errno and **chain. -/
import Derived.Test.YtlkhbepmkembgaaDoorE
namespace Go.Proofs.YtlkhbepmkembgaaDoor
open Go.RowKit Go.Extern.Stop Go.Stop Go.Extern
abbrev rt (t : TypeId) : Value := .agg #[.pointer (some ⟨4, t, none⟩)]
abbrev rti (t : TypeId) : Value := .iface 87 (rt t)
abbrev rv (t : TypeId) (a : Addr) (fl : Int) : Value := .agg #[.pointer (some ⟨4, t, none⟩), .pointer (some a), .int .u64 fl]
theorem m_kind (n : Nat) (h : Value) (w : World) : (Go.method (n + 1) 87 (.agg #[h]) "Kind").run Tryd.prog w = .ok (66, h) w := by kernel_rfl
theorem m_elem (n : Nat) (h : Value) (w : World) : (Go.method (n + 1) 87 (.agg #[h]) "Elem").run Tryd.prog w = .ok (79, .agg #[h]) w := by kernel_rfl
theorem m_impl (n : Nat) (h : Value) (w : World) : (Go.method (n + 1) 87 (.agg #[h]) "Implements").run Tryd.prog w = .ok (80, .agg #[h]) w := by kernel_rfl
theorem m_asg (n : Nat) (h : Value) (w : World) : (Go.method (n + 1) 87 (.agg #[h]) "AssignableTo").run Tryd.prog w = .ok (77, .agg #[h]) w := by kernel_rfl
theorem rlm (z : Sem Value) (f : TypeId → Addr → Nat → Nat → Sem Value) (v : Value) :
    ReflectliteValue.method z f #[v] = (do match ← ReflectliteValue.parts v with | none => z | some (t, a, fl) => f t a fl (fl % 32)) := rfl
theorem rls (v x : Value) : ReflectliteValue.set #[v, x] = (do
    let (some (dst, a, fl), some (src, b, _)) := (← ReflectliteValue.parts v, ← ReflectliteValue.parts x)
      | unsupported (.noEntry "extern/(internal/reflectlite.Value).Set.zeroValue")
    if fl / ReflectliteValue.flagAddr % 2 == 0 then unsupported (.noEntry "extern/(internal/reflectlite.Value).Set.unaddressable")
    let val ← loadVar src b
    if ← Rtype.directlyAssignable dst src then storeVar dst a val
    else if ← Rtype.implements dst src then
      if (← Rtype.kind src) == 20 then
        match val with
        | .nilIface => unsupported (.noEntry "extern/reflectlite: a nil value of one interface type handed on as a value of another")
        | _ => storeVar dst a val
      else storeVar dst a (.iface src val)
    else panicString ("reflectlite.Set: value of type " ++ (← Rtype.spelt src) ++ " is not assignable to type " ++ (← Rtype.spelt dst))
    pure (.tuple #[])) := rfl
theorem r_typeOf_chain (v : Value) (w : World) : (ReflectliteType.typeOf #[.iface 56 v]).run Tryd.prog w = .ok (rti 56) w := by kernel_rfl
theorem r_typeOf_join (v : Value) (w : World) : (ReflectliteType.typeOf #[.iface 83 v]).run Tryd.prog w = .ok (rti 83) w := by kernel_rfl
theorem r_typeOf_root (v : Value) (w : World) : (ReflectliteType.typeOf #[.iface 30 v]).run Tryd.prog w = .ok (rti 30) w := by kernel_rfl
theorem asg_30_30 (w : World) : (ReflectliteType.relation "AssignableTo" ReflectliteType.assignableTo #[rt 30, rti 30]).run Tryd.prog w = .ok (.bool true) w := by kernel_rfl
theorem asg_56_30 (w : World) : (ReflectliteType.relation "AssignableTo" ReflectliteType.assignableTo #[rt 56, rti 30]).run Tryd.prog w = .ok (.bool false) w := by kernel_rfl
theorem asg_83_30 (w : World) : (ReflectliteType.relation "AssignableTo" ReflectliteType.assignableTo #[rt 83, rti 30]).run Tryd.prog w = .ok (.bool false) w := by kernel_rfl
theorem asg_56_56 (w : World) : (ReflectliteType.relation "AssignableTo" ReflectliteType.assignableTo #[rt 56, rti 56]).run Tryd.prog w = .ok (.bool true) w := by kernel_rfl
theorem asg_30_56 (w : World) : (ReflectliteType.relation "AssignableTo" ReflectliteType.assignableTo #[rt 30, rti 56]).run Tryd.prog w = .ok (.bool false) w := by kernel_rfl
/-! $1: the pointer's type, $2: what it points to, $3: its kind, $4, $5: the flags; $6: the value's shape -/
theorem valueOf_52 (t : Addr) (w : World) : (ReflectliteValue.unpack (.iface 52 (.pointer (some t)))).run Tryd.prog w = .ok (rv 52 ⟨w.heap.size, 0, none⟩ 150) (w.alloc (.cells #[.pointer (some t)] 52)) := by kernel_rfl
theorem type_52 (a : Addr) (w : World) : (ReflectliteValue.methodAny (ReflectliteValue.valueError "reflectlite.Value.Type" 0) (fun t _ _ _ => ReflectliteType.toType t) #[rv 52 a 150]).run Tryd.prog w = .ok (rti 52) w := by kernel_rfl
theorem kind_52 (w : World) : ((ReflectliteType.abiMethod fun t => (fun a : Nat => Value.int IntKind.u8 (a : Int)) <$> Rtype.kind t) #[.pointer (some ⟨4, 52, none⟩)]).run Tryd.prog w = .ok (.int .u8 22) w := by kernel_rfl
theorem kind_30 (w : World) : ((ReflectliteType.abiMethod fun t => (fun a : Nat => Value.int IntKind.u8 (a : Int)) <$> Rtype.kind t) #[.pointer (some ⟨4, 30, none⟩)]).run Tryd.prog w = .ok (.int .u8 2) w := by kernel_rfl
theorem parts_52 (a : Addr) (w : World) : (ReflectliteValue.parts (rv 52 a 150)).run Tryd.prog w = .ok (some (52, a, 150)) w := by kernel_rfl
theorem isNil_52 (a p : Addr) (W : World) (ha : W.cell? a = some (.pointer (some p))) :
    (ReflectliteValue.method (ReflectliteValue.valueError "reflectlite.Value.IsNil" 0) ReflectliteValue.isNil #[rv 52 a 150]).run Tryd.prog W = .ok (.bool false) W := by
  rw [rlm]
  simp only [Sem.run_bind, parts_52, Result.andThen]
  simp [ReflectliteValue.isNil, loadVar, isAgg, underlying, Tryd.underlying52, ha, Result.andThen]
theorem elem_52 (w : World) : (ReflectliteType.method ReflectliteType.elem #[rt 52]).run Tryd.prog w = .ok (rti 30) w := by kernel_rfl
theorem impl_30 (w : World) : (ReflectliteType.relation "Implements" ReflectliteType.implements_ #[rt 30, rti 27]).run Tryd.prog w = .ok (.bool true) w := by kernel_rfl
theorem valueOf_30 (r : Int) (w : World) : (ReflectliteValue.unpack (.iface 30 (.int .i64 r))).run Tryd.prog w = .ok (rv 30 ⟨w.heap.size, 0, none⟩ 130) (w.alloc (.cells #[(.int .i64 r)] 30)) := by kernel_rfl
theorem elemOf_52 (w : World) : (Rtype.elem? 52).run Tryd.prog w = .ok (some 30) w := by kernel_rfl
theorem mk_30 (p : Addr) (w : World) : (ReflectliteValue.mk 30 p ReflectliteValue.flagAddr).run Tryd.prog w = .ok (rv 30 p 386) w := by kernel_rfl
theorem elemV_52 (a p : Addr) (W : World) (ha : W.cell? a = some (.pointer (some p))) :
    (ReflectliteValue.method (ReflectliteValue.valueError "reflectlite.Value.Elem" 0) ReflectliteValue.elem #[rv 52 a 150]).run Tryd.prog W = .ok (rv 30 p 386) W := by
  rw [rlm]
  simp only [Sem.run_bind, parts_52, Result.andThen]
  simp [ReflectliteValue.elem, loadVar, isAgg, underlying, Tryd.underlying52, ha, Result.andThen, elemOf_52, mk_30]
theorem partsA_30 (a : Addr) (w : World) : (ReflectliteValue.parts (rv 30 a 386)).run Tryd.prog w = .ok (some (30, a, 386)) w := by kernel_rfl
theorem parts_30 (a : Addr) (w : World) : (ReflectliteValue.parts (rv 30 a 130)).run Tryd.prog w = .ok (some (30, a, 130)) w := by kernel_rfl
theorem direct_30 (w : World) : (Rtype.directlyAssignable 30 30).run Tryd.prog w = .ok true w := by kernel_rfl
theorem set_30 (ta b : Addr) (x old : Value) (W : World) (hx : x.cells = #[x]) (h1 : x.oneCell' = true) (hb : W.cell? b = some x) (ht : W.cell? ta = some old) (hf : W.frozen? ta = false) :
    (ReflectliteValue.set #[rv 30 ta 386, rv 30 b 130]).run Tryd.prog W = .ok (.tuple #[]) (W.setCell ta x) := by
  rw [rls]
  simp only [Sem.run_bind, partsA_30, parts_30, Result.andThen]
  simp [ReflectliteValue.flagAddr, loadVar, isAgg, underlying, Tryd.underlying30, hb, Result.andThen, direct_30, storeVar, hx, storeCells, Addr.add]
  rw [run_store Tryd.prog W ta _ _ h1]
  simp [ht, hf]
theorem valueOf_78 (t : Addr) (w : World) : (ReflectliteValue.unpack (.iface 78 (.pointer (some t)))).run Tryd.prog w = .ok (rv 78 ⟨w.heap.size, 0, none⟩ 150) (w.alloc (.cells #[.pointer (some t)] 78)) := by kernel_rfl
theorem type_78 (a : Addr) (w : World) : (ReflectliteValue.methodAny (ReflectliteValue.valueError "reflectlite.Value.Type" 0) (fun t _ _ _ => ReflectliteType.toType t) #[rv 78 a 150]).run Tryd.prog w = .ok (rti 78) w := by kernel_rfl
theorem kind_78 (w : World) : ((ReflectliteType.abiMethod fun t => (fun a : Nat => Value.int IntKind.u8 (a : Int)) <$> Rtype.kind t) #[.pointer (some ⟨4, 78, none⟩)]).run Tryd.prog w = .ok (.int .u8 22) w := by kernel_rfl
theorem kind_56 (w : World) : ((ReflectliteType.abiMethod fun t => (fun a : Nat => Value.int IntKind.u8 (a : Int)) <$> Rtype.kind t) #[.pointer (some ⟨4, 56, none⟩)]).run Tryd.prog w = .ok (.int .u8 22) w := by kernel_rfl
theorem parts_78 (a : Addr) (w : World) : (ReflectliteValue.parts (rv 78 a 150)).run Tryd.prog w = .ok (some (78, a, 150)) w := by kernel_rfl
theorem isNil_78 (a p : Addr) (W : World) (ha : W.cell? a = some (.pointer (some p))) :
    (ReflectliteValue.method (ReflectliteValue.valueError "reflectlite.Value.IsNil" 0) ReflectliteValue.isNil #[rv 78 a 150]).run Tryd.prog W = .ok (.bool false) W := by
  rw [rlm]
  simp only [Sem.run_bind, parts_78, Result.andThen]
  simp [ReflectliteValue.isNil, loadVar, isAgg, underlying, Tryd.underlying78, ha, Result.andThen]
theorem elem_78 (w : World) : (ReflectliteType.method ReflectliteType.elem #[rt 78]).run Tryd.prog w = .ok (rti 56) w := by kernel_rfl
theorem impl_56 (w : World) : (ReflectliteType.relation "Implements" ReflectliteType.implements_ #[rt 56, rti 27]).run Tryd.prog w = .ok (.bool true) w := by kernel_rfl
theorem valueOf_56 (p : Addr) (w : World) : (ReflectliteValue.unpack (.iface 56 (.pointer (some p)))).run Tryd.prog w = .ok (rv 56 ⟨w.heap.size, 0, none⟩ 150) (w.alloc (.cells #[(.pointer (some p))] 56)) := by kernel_rfl
theorem elemOf_78 (w : World) : (Rtype.elem? 78).run Tryd.prog w = .ok (some 56) w := by kernel_rfl
theorem mk_56 (p : Addr) (w : World) : (ReflectliteValue.mk 56 p ReflectliteValue.flagAddr).run Tryd.prog w = .ok (rv 56 p 406) w := by kernel_rfl
theorem elemV_78 (a p : Addr) (W : World) (ha : W.cell? a = some (.pointer (some p))) :
    (ReflectliteValue.method (ReflectliteValue.valueError "reflectlite.Value.Elem" 0) ReflectliteValue.elem #[rv 78 a 150]).run Tryd.prog W = .ok (rv 56 p 406) W := by
  rw [rlm]
  simp only [Sem.run_bind, parts_78, Result.andThen]
  simp [ReflectliteValue.elem, loadVar, isAgg, underlying, Tryd.underlying78, ha, Result.andThen, elemOf_78, mk_56]
theorem partsA_56 (a : Addr) (w : World) : (ReflectliteValue.parts (rv 56 a 406)).run Tryd.prog w = .ok (some (56, a, 406)) w := by kernel_rfl
theorem parts_56 (a : Addr) (w : World) : (ReflectliteValue.parts (rv 56 a 150)).run Tryd.prog w = .ok (some (56, a, 150)) w := by kernel_rfl
theorem direct_56 (w : World) : (Rtype.directlyAssignable 56 56).run Tryd.prog w = .ok true w := by kernel_rfl
theorem set_56 (ta b : Addr) (x old : Value) (W : World) (hx : x.cells = #[x]) (h1 : x.oneCell' = true) (hb : W.cell? b = some x) (ht : W.cell? ta = some old) (hf : W.frozen? ta = false) :
    (ReflectliteValue.set #[rv 56 ta 406, rv 56 b 150]).run Tryd.prog W = .ok (.tuple #[]) (W.setCell ta x) := by
  rw [rls]
  simp only [Sem.run_bind, partsA_56, parts_56, Result.andThen]
  simp [ReflectliteValue.flagAddr, loadVar, isAgg, underlying, Tryd.underlying56, hb, Result.andThen, direct_56, storeVar, hx, storeCells, Addr.add]
  rw [run_store Tryd.prog W ta _ _ h1]
  simp [ht, hf]
end Go.Proofs.YtlkhbepmkembgaaDoor
