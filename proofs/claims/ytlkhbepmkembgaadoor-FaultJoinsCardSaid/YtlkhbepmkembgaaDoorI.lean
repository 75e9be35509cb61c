/- Faults: errors.as at *Errno and **chain. -/
import Derived.Test.YtlkhbepmkembgaaDoorG
import Derived.Test.YtlkhbepmkembgaaDoorH
namespace Go.Proofs.YtlkhbepmkembgaaDoor
open Go.RowKit Go.Extern.Stop Go.Stop Go.Extern
theorem x26 (args : Array Value) (w : World) : (callFunc 26 args).run Tryd.prog w = (((fun args => ReflectliteValue.unpack (args.getD 0 (.tuple #[]))) args).run Tryd.prog w).andThen fun v w' => .ok (.value v) w' := @run_callFunc_extern Tryd.prog 26 _ (fun args => ReflectliteValue.unpack (args.getD 0 (.tuple #[]))) Tryd.func26 (by kernel_rfl) (by kernel_rfl) (by kernel_rfl) (by kernel_rfl) args w
theorem x27 (args : Array Value) (w : World) : (callFunc 27 args).run Tryd.prog w = (((ReflectliteValue.methodAny (ReflectliteValue.valueError "reflectlite.Value.Type" 0) (fun t _ _ _ => ReflectliteType.toType t)) args).run Tryd.prog w).andThen fun v w' => .ok (.value v) w' := @run_callFunc_extern Tryd.prog 27 _ (ReflectliteValue.methodAny (ReflectliteValue.valueError "reflectlite.Value.Type" 0) (fun t _ _ _ => ReflectliteType.toType t)) Tryd.func27 (by kernel_rfl) (by kernel_rfl) (by kernel_rfl) (by kernel_rfl) args w
theorem x28 (args : Array Value) (w : World) : (callFunc 28 args).run Tryd.prog w = (((ReflectliteValue.method (ReflectliteValue.valueError "reflectlite.Value.IsNil" 0) ReflectliteValue.isNil) args).run Tryd.prog w).andThen fun v w' => .ok (.value v) w' := @run_callFunc_extern Tryd.prog 28 _ (ReflectliteValue.method (ReflectliteValue.valueError "reflectlite.Value.IsNil" 0) ReflectliteValue.isNil) Tryd.func28 (by kernel_rfl) (by kernel_rfl) (by kernel_rfl) (by kernel_rfl) args w
theorem x30 (args : Array Value) (w : World) : (callFunc 30 args).run Tryd.prog w = (((ReflectliteType.typeOf) args).run Tryd.prog w).andThen fun v w' => .ok (.value v) w' := @run_callFunc_extern Tryd.prog 30 _ (ReflectliteType.typeOf) Tryd.func30 (by kernel_rfl) (by kernel_rfl) (by kernel_rfl) (by kernel_rfl) args w
theorem x36 (args : Array Value) (w : World) : (callFunc 36 args).run Tryd.prog w = (((ReflectliteValue.method (ReflectliteValue.valueError "reflectlite.Value.Elem" 0) ReflectliteValue.elem) args).run Tryd.prog w).andThen fun v w' => .ok (.value v) w' := @run_callFunc_extern Tryd.prog 36 _ (ReflectliteValue.method (ReflectliteValue.valueError "reflectlite.Value.Elem" 0) ReflectliteValue.elem) Tryd.func36 (by kernel_rfl) (by kernel_rfl) (by kernel_rfl) (by kernel_rfl) args w
theorem x37 (args : Array Value) (w : World) : (callFunc 37 args).run Tryd.prog w = (((ReflectliteValue.set) args).run Tryd.prog w).andThen fun v w' => .ok (.value v) w' := @run_callFunc_extern Tryd.prog 37 _ (ReflectliteValue.set) Tryd.func37 (by kernel_rfl) (by kernel_rfl) (by kernel_rfl) (by kernel_rfl) args w
theorem x66 (args : Array Value) (w : World) : (callFunc 66 args).run Tryd.prog w = (((ReflectliteType.abiMethod fun t => do pure (.int .u8 (← Rtype.kind t))) args).run Tryd.prog w).andThen fun v w' => .ok (.value v) w' := @run_callFunc_extern Tryd.prog 66 _ (ReflectliteType.abiMethod fun t => do pure (.int .u8 (← Rtype.kind t))) Tryd.func66 (by kernel_rfl) (by kernel_rfl) (by kernel_rfl) (by kernel_rfl) args w
theorem x77 (args : Array Value) (w : World) : (callFunc 77 args).run Tryd.prog w = (((ReflectliteType.relation "AssignableTo" ReflectliteType.assignableTo) args).run Tryd.prog w).andThen fun v w' => .ok (.value v) w' := @run_callFunc_extern Tryd.prog 77 _ (ReflectliteType.relation "AssignableTo" ReflectliteType.assignableTo) Tryd.func77 (by kernel_rfl) (by kernel_rfl) (by kernel_rfl) (by kernel_rfl) args w
theorem x79 (args : Array Value) (w : World) : (callFunc 79 args).run Tryd.prog w = (((ReflectliteType.method ReflectliteType.elem) args).run Tryd.prog w).andThen fun v w' => .ok (.value v) w' := @run_callFunc_extern Tryd.prog 79 _ (ReflectliteType.method ReflectliteType.elem) Tryd.func79 (by kernel_rfl) (by kernel_rfl) (by kernel_rfl) (by kernel_rfl) args w
theorem x80 (args : Array Value) (w : World) : (callFunc 80 args).run Tryd.prog w = (((ReflectliteType.relation "Implements" ReflectliteType.implements_) args).run Tryd.prog w).andThen fun v w' => .ok (.value v) w' := @run_callFunc_extern Tryd.prog 80 _ (ReflectliteType.relation "Implements" ReflectliteType.implements_) Tryd.func80 (by kernel_rfl) (by kernel_rfl) (by kernel_rfl) (by kernel_rfl) args w
theorem x78 (args : Array Value) (w : World) : (callFunc 78 args).run Tryd.prog w = (((ReflectliteType.method fun t => do Rtype.noPackHeld "Comparable" t; pure (.bool (← typeInfo t).comparable)) args).run Tryd.prog w).andThen fun v w' => .ok (.value v) w' := @run_callFunc_extern Tryd.prog 78 _ (ReflectliteType.method fun t => do Rtype.noPackHeld "Comparable" t; pure (.bool (← typeInfo t).comparable)) Tryd.func78 (by kernel_rfl) (by kernel_rfl) (by kernel_rfl) (by kernel_rfl) args w
theorem z78 (w : World) : (callFunc 78 #[rt 30]).run Tryd.prog w = .ok (.value (.bool true)) w := by
  rw [x78, show ((ReflectliteType.method fun t => do Rtype.noPackHeld "Comparable" t; pure (.bool (← typeInfo t).comparable)) #[rt 30]).run Tryd.prog w = .ok (.bool true) w from by kernel_rfl]; rfl
theorem z30R (v : Value) (w : World) : (callFunc 30 #[.iface 30 v]).run Tryd.prog w = .ok (.value (rti 30)) w := by rw [x30, r_typeOf_root]; rfl
theorem z30C (v : Value) (w : World) : (callFunc 30 #[.iface 56 v]).run Tryd.prog w = .ok (.value (rti 56)) w := by rw [x30, r_typeOf_chain]; rfl
theorem z30J (v : Value) (w : World) : (callFunc 30 #[.iface 83 v]).run Tryd.prog w = .ok (.value (rti 83)) w := by rw [x30, r_typeOf_join]; rfl
theorem z77_30_30 (w : World) : (callFunc 77 #[rt 30, rti 30]).run Tryd.prog w = .ok (.value (.bool true)) w := by rw [x77, asg_30_30]; rfl
theorem z77_56_30 (w : World) : (callFunc 77 #[rt 56, rti 30]).run Tryd.prog w = .ok (.value (.bool false)) w := by rw [x77, asg_56_30]; rfl
theorem z77_83_30 (w : World) : (callFunc 77 #[rt 83, rti 30]).run Tryd.prog w = .ok (.value (.bool false)) w := by rw [x77, asg_83_30]; rfl
theorem z77_56_56 (w : World) : (callFunc 77 #[rt 56, rti 56]).run Tryd.prog w = .ok (.value (.bool true)) w := by rw [x77, asg_56_56]; rfl
theorem z77_30_56 (w : World) : (callFunc 77 #[rt 30, rti 56]).run Tryd.prog w = .ok (.value (.bool false)) w := by rw [x77, asg_30_56]; rfl
theorem z26_52 (t : Addr) (w : World) : (callFunc 26 #[.iface 52 (.pointer (some t))]).run Tryd.prog w = .ok (.value (rv 52 ⟨w.heap.size, 0, none⟩ 150)) (w.alloc (.cells #[.pointer (some t)] 52)) := by
  rw [x26]; show ((ReflectliteValue.unpack (.iface 52 (.pointer (some t)))).run Tryd.prog w).andThen _ = _; rw [valueOf_52]; rfl
theorem z27_52 (a : Addr) (w : World) : (callFunc 27 #[rv 52 a 150]).run Tryd.prog w = .ok (.value (rti 52)) w := by rw [x27, type_52]; rfl
theorem z66_52 (w : World) : (callFunc 66 #[.pointer (some ⟨4, 52, none⟩)]).run Tryd.prog w = .ok (.value (.int .u8 22)) w := by
  rw [x66]; have h := kind_52 w; simp only [bind_pure_comp] at h ⊢; rw [h]; rfl
theorem z66_30 (w : World) : (callFunc 66 #[.pointer (some ⟨4, 30, none⟩)]).run Tryd.prog w = .ok (.value (.int .u8 2)) w := by
  rw [x66]; have h := kind_30 w; simp only [bind_pure_comp] at h ⊢; rw [h]; rfl
theorem z28_52 (a p : Addr) (W : World) (ha : W.cell? a = some (.pointer (some p))) : (callFunc 28 #[rv 52 a 150]).run Tryd.prog W = .ok (.value (.bool false)) W := by rw [x28, isNil_52 a p W ha]; rfl
theorem z79_52 (w : World) : (callFunc 79 #[rt 52]).run Tryd.prog w = .ok (.value (rti 30)) w := by rw [x79, elem_52]; rfl
theorem z80_30 (w : World) : (callFunc 80 #[rt 30, rti 27]).run Tryd.prog w = .ok (.value (.bool true)) w := by rw [x80, impl_30]; rfl
theorem z26_30 (r : Int) (w : World) : (callFunc 26 #[.iface 30 (.int .i64 r)]).run Tryd.prog w = .ok (.value (rv 30 ⟨w.heap.size, 0, none⟩ 130)) (w.alloc (.cells #[(.int .i64 r)] 30)) := by
  rw [x26]; show ((ReflectliteValue.unpack (.iface 30 (.int .i64 r))).run Tryd.prog w).andThen _ = _; rw [valueOf_30]; rfl
theorem z36_52 (a p : Addr) (W : World) (ha : W.cell? a = some (.pointer (some p))) : (callFunc 36 #[rv 52 a 150]).run Tryd.prog W = .ok (.value (rv 30 p 386)) W := by rw [x36, elemV_52 a p W ha]; rfl
theorem z37_30 (ta b : Addr) (x old : Value) (W : World) (hx : x.cells = #[x]) (h1 : x.oneCell' = true) (hb : W.cell? b = some x) (ht : W.cell? ta = some old) (hf : W.frozen? ta = false) : (callFunc 37 #[rv 30 ta 386, rv 30 b 130]).run Tryd.prog W = .ok (.value (.tuple #[])) (W.setCell ta x) := by
  rw [x37, set_30 ta b x old W hx h1 hb ht hf]; rfl
theorem z26_78 (t : Addr) (w : World) : (callFunc 26 #[.iface 78 (.pointer (some t))]).run Tryd.prog w = .ok (.value (rv 78 ⟨w.heap.size, 0, none⟩ 150)) (w.alloc (.cells #[.pointer (some t)] 78)) := by
  rw [x26]; show ((ReflectliteValue.unpack (.iface 78 (.pointer (some t)))).run Tryd.prog w).andThen _ = _; rw [valueOf_78]; rfl
theorem z27_78 (a : Addr) (w : World) : (callFunc 27 #[rv 78 a 150]).run Tryd.prog w = .ok (.value (rti 78)) w := by rw [x27, type_78]; rfl
theorem z66_78 (w : World) : (callFunc 66 #[.pointer (some ⟨4, 78, none⟩)]).run Tryd.prog w = .ok (.value (.int .u8 22)) w := by
  rw [x66]; have h := kind_78 w; simp only [bind_pure_comp] at h ⊢; rw [h]; rfl
theorem z66_56 (w : World) : (callFunc 66 #[.pointer (some ⟨4, 56, none⟩)]).run Tryd.prog w = .ok (.value (.int .u8 22)) w := by
  rw [x66]; have h := kind_56 w; simp only [bind_pure_comp] at h ⊢; rw [h]; rfl
theorem z28_78 (a p : Addr) (W : World) (ha : W.cell? a = some (.pointer (some p))) : (callFunc 28 #[rv 78 a 150]).run Tryd.prog W = .ok (.value (.bool false)) W := by rw [x28, isNil_78 a p W ha]; rfl
theorem z79_78 (w : World) : (callFunc 79 #[rt 78]).run Tryd.prog w = .ok (.value (rti 56)) w := by rw [x79, elem_78]; rfl
theorem z80_56 (w : World) : (callFunc 80 #[rt 56, rti 27]).run Tryd.prog w = .ok (.value (.bool true)) w := by rw [x80, impl_56]; rfl
theorem z26_56 (p : Addr) (w : World) : (callFunc 26 #[.iface 56 (.pointer (some p))]).run Tryd.prog w = .ok (.value (rv 56 ⟨w.heap.size, 0, none⟩ 150)) (w.alloc (.cells #[(.pointer (some p))] 56)) := by
  rw [x26]; show ((ReflectliteValue.unpack (.iface 56 (.pointer (some p)))).run Tryd.prog w).andThen _ = _; rw [valueOf_56]; rfl
theorem z36_78 (a p : Addr) (W : World) (ha : W.cell? a = some (.pointer (some p))) : (callFunc 36 #[rv 78 a 150]).run Tryd.prog W = .ok (.value (rv 56 p 406)) W := by rw [x36, elemV_78 a p W ha]; rfl
theorem z37_56 (ta b : Addr) (x old : Value) (W : World) (hx : x.cells = #[x]) (h1 : x.oneCell' = true) (hb : W.cell? b = some x) (ht : W.cell? ta = some old) (hf : W.frozen? ta = false) : (callFunc 37 #[rv 56 ta 406, rv 56 b 150]).run Tryd.prog W = .ok (.value (.tuple #[])) (W.setCell ta x) := by
  rw [x37, set_56 ta b x old W hx h1 hb ht hf]; rfl
end Go.Proofs.YtlkhbepmkembgaaDoor
