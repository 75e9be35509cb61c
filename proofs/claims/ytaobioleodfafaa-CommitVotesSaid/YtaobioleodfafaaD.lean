/- at, all, voted. -/
import Derived.Test.YtaobioleodfafaaC
import Derived.Test.YtaobioleodfafaaRng
namespace Go.Proofs.Ytaobioleodfafaa
open Go.RowKit
def txc (t : Tx) : Array Value := #[.int .u8 t.1, .int .u32 t.2.1, .int .u32 t.2.2]
theorem BookAt.facts {B T : Nat} {w : World} {bb m1 rb : Nat} {t1 t2 t3 : Int} (h : BookAt B T w bb m1 [((t1, t2, t3), ptr rb)]) :
    w.cell? ⟨bb, 0, none⟩ = some (.map (some m1)) ∧ (∀ q, (Instr.lookup 51 (.map (some m1)) (.agg #[.int .u8 t1, .int .u32 t2, .int .u32 t3]) false).run Try.prog (w.drewN q) = .ok (.pointer (some ⟨rb, 0, none⟩)) (w.drewN q)) := by
  obtain ⟨m2, hb⟩ := h.obj
  refine ⟨by rw [row_cell hb]; rfl, fun q => ?_⟩
  exact (h.same (kept_drewN (F := fun _ => False) w q)).map.run_look_some Try.underlying51 (k := (t1, t2, t3)) (v := ptr rb) (by simp [lookT]) false
theorem RunAt.facts {B T : Nat} {w : World} {rb mp : Nat} {ns : List Int} {pb : Int → Nat} {Y : Int → Bool} {st : Int} (h : RunAt B T w rb mp ns pb Y st) :
    w.cell? ⟨rb, 0, none⟩ = some (.map (some mp)) ∧ w.cell? ⟨rb, 1, none⟩ = some (.int .i64 st) ∧ w.frozen? ⟨rb, 1, none⟩ = false := ⟨by rw [row_cell h.obj]; rfl, by rw [row_cell h.obj]; rfl, row_free h.obj 1⟩
theorem RunAt.look {B T : Nat} {w : World} {rb mp : Nat} {ns : List Int} {pb : Int → Nat} {Y : Int → Bool} {st : Int} (h : RunAt B T w rb mp ns pb Y st) {v : Int} (hv : v ∈ ns) (q : Nat) :
    (Instr.lookup 55 (.map (some mp)) (.int .u8 v) false).run Try.prog (w.drewN q) = .ok (.pointer (some ⟨pb v, 0, none⟩)) (w.drewN q) :=
  (h.same (kept_drewN (F := fun _ => False) w q)).map.run_look_some Try.underlying55 Try.underlying5 (v := ptr (pb v)) (by rw [pents, look_map, if_pos hv]) false
theorem RunAt.pcell {B T : Nat} {w : World} {rb mp : Nat} {ns : List Int} {pb : Int → Nat} {Y : Int → Bool} {st : Int} (h : RunAt B T w rb mp ns pb Y st) {v : Int} (hv : v ∈ ns) :
    w.cell? ⟨pb v, 0, none⟩ = some (.bool (Y v)) ∧ w.cell? ⟨pb v, 1, none⟩ = some (.bool false) ∧ w.frozen? ⟨pb v, 0, none⟩ = false := ⟨by rw [row_cell (h.part v hv)]; rfl, by rw [row_cell (h.part v hv)]; rfl, row_free (h.part v hv) 0⟩
set_option maxRecDepth 100000 in
set_option maxHeartbeats 1000000 in
theorem at_any {B T B' T' : Nat} {w : World} {bb m1 rb mp : Nat} {ns : List Int} {pb : Int → Nat} {Y : Int → Bool} {st : Int} {t1 t2 t3 : Int} (hb : BookAt B T w bb m1 [((t1, t2, t3), ptr rb)]) (hr : RunAt B' T' w rb mp ns pb Y st) {v : Int} (hv : v ∈ ns) :
    Calls Try.prog 17 #[.pointer (some ⟨bb, 0, none⟩), .agg #[.int .u8 t1, .int .u32 t2, .int .u32 t3], .int .u8 v] w fun e w' => e = .returned (.tuple #[.pointer (some ⟨rb, 0, none⟩), .pointer (some ⟨pb v, 0, none⟩), .int .i64 0]) ∧ Kept (fun _ => False) w w' := by
  have hk1 := (Kept.refl (fun _ => False) w).alloc (.cells #[.int .u8 t1, .int .u32 t2, .int .u32 t3] 28)
  have hkb := row_new w (.cells #[.int .u8 t1, .int .u32 t2, .int .u32 t3] 28)
  obtain ⟨w1, hw1⟩ : ∃ w1, w.alloc (.cells #[.int .u8 t1, .int .u32 t2, .int .u32 t3] 28) = w1 := ⟨_, rfl⟩
  obtain ⟨kb, hkb'⟩ : ∃ kb, w.heap.size = kb := ⟨_, rfl⟩
  rw [hw1] at hk1 hkb
  rw [hkb'] at hkb
  have HB := hid (hb.same hk1); have HR := hid (hr.same hk1); have HK := hid hkb; have K1 := hid hk1
  obtain ⟨c0, l0⟩ := HB.out.facts
  obtain ⟨d0, d1, d2⟩ := cells3 HK.out
  clear hb hr hk1 hkb
  go_enter Try.func17, Try.ntmps17
  go_wp2_with fail
  try rw [hw1, hkb']
  clear hw1 hkb'
  go_quiet (fail)
  have KQ := kept_drewN (F := fun _ => False) w1 nq
  have HB2 := hid (HB.out.same KQ); have HR2 := hid (HR.out.same KQ); have HK2 := hid ((KQ.block _ (row_lt HK.out) id).trans HK.out); have K2 := hid (K1.out.trans KQ)
  obtain ⟨w2, hw2⟩ : ∃ w2, w1.drewN nq = w2 := ⟨_, rfl⟩
  rw [hw2] at HB2 HR2 HK2 K2 ⊢
  obtain ⟨c0, l0⟩ := HB2.out.facts
  obtain ⟨d0, d1, d2⟩ := cells3 HK2.out
  clear HB HR HK K1 KQ hw2
  go_wp2_with fail
  go_quiet (fail)
  have KQ := kept_drewN (F := fun _ => False) w2 nq
  have HR3 := hid (HR2.out.same KQ); have K3 := hid (K2.out.trans KQ)
  obtain ⟨w3, hw3⟩ : ∃ w3, w2.drewN nq = w3 := ⟨_, rfl⟩
  rw [hw3] at HR3 K3 ⊢
  obtain ⟨r0, r1, _⟩ := HR3.out.facts
  have lk := HR3.out.look hv
  have lk0 : (Instr.lookup 55 (.map (some mp)) (.int .u8 v) false).run Try.prog w3 = .ok (.pointer (some ⟨pb v, 0, none⟩)) w3 := lk 0
  clear HB2 HR2 HK2 K2 KQ hw3 c0 l0 d0 d1 d2
  go_wp2_with fail
  go_quiet (fail)
  have K4 := hid (K3.out.trans (kept_drewN (F := fun _ => False) w3 nq))
  go_wp2
  go_returns
  exact ⟨rfl, K4.out⟩
end Go.Proofs.Ytaobioleodfafaa
