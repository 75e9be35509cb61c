/- Faults: chains in memory; closed facts; errors.is. -/
import Derived.Test.YtlkhbepmkembgaaDoorMap
import Derived.LaidEql
import Derived.Stop.Asserts
import Derived.RowKitTokens
namespace Go.Proofs.YtlkhbepmkembgaaDoor
open Go.RowKit Go.Extern.Stop Go.Stop Go.Extern
abbrev FL := Int × Int
/-- these links, and behind them b -/
def LinksAt (w : World) (b : Value) : List FL → Value → Prop
  | [], v => v = b
  | l :: ls, v => ∃ (blk : Nat) (e : Value), v = .iface 56 (.pointer (some ⟨blk, 0, none⟩)) ∧ w.heap[blk]? = some (.cells #[.int .i64 l.1, .int .u32 l.2, e] 59 (0, 0)) ∧ LinksAt w b ls e
def rootV (r : Int) : Value := .iface 30 (.int .i64 r)
def NoLink (b : Value) : Prop := ∀ p, b ≠ .iface 56 p
theorem noLink_root (r : Int) : NoLink (rootV r) := fun p h => by simp [rootV] at h
theorem LinksAt.uniq {w : World} {b : Value} (hb : NoLink b) : ∀ {ls ms : List FL} {v : Value}, LinksAt w b ls v → LinksAt w b ms v → ls = ms
  | [], [], _, _, _ => rfl
  | [], _ :: _, _, h, ⟨_, _, h2, _⟩ => absurd (h.symm.trans h2) (hb _)
  | _ :: _, [], _, ⟨_, _, h2, _⟩, h => absurd (h.symm.trans h2) (hb _)
  | l :: ls, m :: ms, v, ⟨k, e, h1, h2, h3⟩, ⟨k', e', h1', h2', h3'⟩ => by
    rw [h1] at h1'
    simp only [Value.iface.injEq, Value.pointer.injEq, Option.some.injEq, Addr.mk.injEq, and_true, true_and] at h1'
    subst h1'
    rw [h2] at h2'
    simp only [Option.some.injEq, Obj.cells.injEq, Array.mk.injEq, List.cons.injEq, Value.int.injEq, true_and, and_true] at h2'
    obtain ⟨a, b', rfl⟩ := h2'
    have := LinksAt.uniq hb h3 h3'
    rw [this, Prod.ext a b']
theorem LinksAt.depth (w : World) {b : Value} (hb : NoLink b) : ∃ D : Value → Nat, ∀ ls v, LinksAt w b ls v → D v = ls.length := by
  classical
  refine ⟨fun v => if h : ∃ ls, LinksAt w b ls v then h.choose.length else 0, fun ls v h => ?_⟩
  have hx : ∃ ls, LinksAt w b ls v := ⟨ls, h⟩
  simp only [hx, dif_pos]
  rw [LinksAt.uniq hb hx.choose_spec h]
theorem LinksAt.kept {w w' : World} {b : Value} {F : Nat → Prop} (k : Kept F w w') (hF : ∀ i, i < w.heap.size → ¬ F i) : ∀ {ls : List FL} {v : Value}, LinksAt w b ls v → LinksAt w' b ls v
  | [], _, h => h
  | _ :: _, _, ⟨bk, e, h1, h2, h3⟩ => ⟨bk, e, h1, by rw [k.block bk (row_lt h2) (hF _ (row_lt h2))]; exact h2, h3.kept k hF⟩
theorem run_eql_iface_int {P : Program} {ti tp : TypeId} {ms : Array (String × TypeId)} {i : TypeInfo} {k : IntKind} (a b : Int) (hi : P.underlying ti = some (.interface ms)) (hp : P.underlying tp = some (.int k)) (hinfo : P.info? tp = some i) (hcomp : i.comparable = true) (w : World) :
    (binOp .eql ti (.iface tp (.int k a)) (.iface tp (.int k b))).run P w = .ok (.bool (a == b)) w := by
  have h : ∀ d : Nat, (Op.equalIn (d + 2) ti (.iface tp (.int k a)) (.iface tp (.int k b))).run P w = .ok (a == b) w := fun d => by
    simp [Op.equalIn, run_underlying hi, run_underlying hp, typeInfo, hinfo, hcomp]
  simp only [binOp]
  simp [Op.equal, Op.maxDepth, h 9998]
/-! closed facts -/
theorem c_comp : (Tryd.prog.info? 30).map (·.comparable) = some true := by kernel_rfl
theorem c_eql (a b : Int) (w : World) : (binOp .eql 27 (.iface 30 (.int .i64 a)) (.iface 30 (.int .i64 b))).run Tryd.prog w = .ok (.bool (a == b)) w := by
  obtain ⟨i, hi, hc⟩ := Option.map_eq_some_iff.1 c_comp
  exact run_eql_iface_int a b Tryd.underlying27 Tryd.underlying30 hi hc w
theorem c_eqlC (v u : Value) (w : World) : (binOp .eql 27 (.iface 56 v) (.iface 30 u)).run Tryd.prog w = .ok (.bool false) w := run_eql_iface_types _ _ _ _ Tryd.underlying27 (by decide) w
theorem c_eqlJ (v u : Value) (w : World) : (binOp .eql 27 (.iface 83 v) (.iface 30 u)).run Tryd.prog w = .ok (.bool false) w := run_eql_iface_types _ _ _ _ Tryd.underlying27 (by decide) w
theorem a_isR (v : Value) (xT : TypeId) (w : World) : (Instr.typeAssert (.iface 30 v) xT 98 true).run Tryd.prog w = .ok (.tuple #[.nilIface, .bool false]) w := run_typeAssert_lacksB Tryd.underlying98 (by kernel_rfl) (by kernel_rfl) v xT w
theorem a_asR (v : Value) (xT : TypeId) (w : World) : (Instr.typeAssert (.iface 30 v) xT 91 true).run Tryd.prog w = .ok (.tuple #[.nilIface, .bool false]) w := run_typeAssert_lacksB Tryd.underlying91 (by kernel_rfl) (by kernel_rfl) v xT w
theorem a_unR (v : Value) (xT : TypeId) (w : World) : (Instr.typeAssert (.iface 30 v) xT 94 true).run Tryd.prog w = .ok (.tuple #[.nilIface, .bool false]) w := run_typeAssert_lacksB Tryd.underlying94 (by kernel_rfl) (by kernel_rfl) v xT w
theorem a_usR (v : Value) (xT : TypeId) (w : World) : (Instr.typeAssert (.iface 30 v) xT 96 true).run Tryd.prog w = .ok (.tuple #[.nilIface, .bool false]) w := run_typeAssert_lacksB Tryd.underlying96 (by kernel_rfl) (by kernel_rfl) v xT w
theorem a_isC (v : Value) (xT : TypeId) (w : World) : (Instr.typeAssert (.iface 56 v) xT 98 true).run Tryd.prog w = .ok (.tuple #[.nilIface, .bool false]) w := run_typeAssert_lacksB Tryd.underlying98 (by kernel_rfl) (by kernel_rfl) v xT w
theorem a_asC (v : Value) (xT : TypeId) (w : World) : (Instr.typeAssert (.iface 56 v) xT 91 true).run Tryd.prog w = .ok (.tuple #[.nilIface, .bool false]) w := run_typeAssert_lacksB Tryd.underlying91 (by kernel_rfl) (by kernel_rfl) v xT w
theorem a_unC (v : Value) (xT : TypeId) (w : World) : (Instr.typeAssert (.iface 56 v) xT 94 true).run Tryd.prog w = .ok (.tuple #[.iface 56 v, .bool true]) w := run_typeAssert_hasB Tryd.underlying94 (by kernel_rfl) v xT w
theorem a_usC (v : Value) (xT : TypeId) (w : World) : (Instr.typeAssert (.iface 56 v) xT 96 true).run Tryd.prog w = .ok (.tuple #[.nilIface, .bool false]) w := run_typeAssert_lacksB Tryd.underlying96 (by kernel_rfl) (by kernel_rfl) v xT w
theorem a_isJ (v : Value) (xT : TypeId) (w : World) : (Instr.typeAssert (.iface 83 v) xT 98 true).run Tryd.prog w = .ok (.tuple #[.nilIface, .bool false]) w := run_typeAssert_lacksB Tryd.underlying98 (by kernel_rfl) (by kernel_rfl) v xT w
theorem a_asJ (v : Value) (xT : TypeId) (w : World) : (Instr.typeAssert (.iface 83 v) xT 91 true).run Tryd.prog w = .ok (.tuple #[.nilIface, .bool false]) w := run_typeAssert_lacksB Tryd.underlying91 (by kernel_rfl) (by kernel_rfl) v xT w
theorem a_unJ (v : Value) (xT : TypeId) (w : World) : (Instr.typeAssert (.iface 83 v) xT 94 true).run Tryd.prog w = .ok (.tuple #[.nilIface, .bool false]) w := run_typeAssert_lacksB Tryd.underlying94 (by kernel_rfl) (by kernel_rfl) v xT w
theorem a_usJ (v : Value) (xT : TypeId) (w : World) : (Instr.typeAssert (.iface 83 v) xT 96 true).run Tryd.prog w = .ok (.tuple #[.iface 83 v, .bool true]) w := run_typeAssert_hasB Tryd.underlying96 (by kernel_rfl) v xT w
theorem a_nil (xT : TypeId) (w : World) : (Instr.typeAssert .nilIface xT 96 true).run Tryd.prog w = .ok (.tuple #[.nilIface, .bool false]) w := by kernel_rfl
theorem m_unC (n : Nat) (v : Value) (w : World) : (Go.method (n + 1) 56 v "Unwrap").run Tryd.prog w = .ok (70, v) w := by kernel_rfl
theorem m_unJ (n : Nat) (v : Value) (w : World) : (Go.method (n + 1) 83 v "Unwrap").run Tryd.prog w = .ok (75, v) w := by kernel_rfl
theorem m_comp (n : Nat) (v : Value) (w : World) : (Go.method (n + 1) 87 v "Comparable").run Tryd.prog w = .ok (78, v) w := by kernel_rfl
theorem r_typeOfR (v : Value) (w : World) : (Extern.ReflectliteType.typeOf #[.iface 30 v]).run Tryd.prog w = .ok (.iface 87 (.agg #[.pointer (some ⟨4, 30, none⟩)])) w := by kernel_rfl
theorem r_comp (w : World) : ((Extern.ReflectliteType.method fun t => (fun a => Value.bool a.comparable) <$> typeInfo t) #[.agg #[.pointer (some ⟨4, 30, none⟩)]]).run Tryd.prog w = .ok (.bool true) w := by kernel_rfl
end Go.Proofs.YtlkhbepmkembgaaDoor
