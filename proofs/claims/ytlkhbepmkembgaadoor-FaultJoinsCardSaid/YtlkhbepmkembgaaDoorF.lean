/- Faults: errors.Is at chains with one root. -/
import Derived.Test.YtlkhbepmkembgaaDoorE
namespace Go.Proofs.YtlkhbepmkembgaaDoor
open Go.RowKit Go.Extern.Stop Go.Stop Go.Extern
theorem unwrap_chain (blk : Nat) (l : FL) (e : Value) (w : World) (h : w.heap[blk]? = some (.cells #[.int .i64 l.1, .int .u32 l.2, e] 59 (0, 0))) :
    Calls Tryd.prog 70 #[.pointer (some ⟨blk, 0, none⟩)] w fun r w' => r = .returned e ∧ w = w' := by
  have c2 := row_cell h 2
  simp at c2
  go_enter Tryd.func70, Tryd.ntmps70
  go_wp2_with fail
  go_ret
  exact ⟨rfl, rfl⟩
set_option maxHeartbeats 2000000 in
set_option maxRecDepth 100000 in
theorem is_root (c r : Int) (ls : List FL) (v : Value) (w : World) (h : LinksAt w (rootV r) ls v) :
    Calls Tryd.prog 31 #[v, rootV c, .bool true] w fun e w' => e = .returned (.bool (r == c)) ∧ w = w' := by
  obtain ⟨D, hD⟩ := LinksAt.depth w (noLink_root r)
  have HD := hid hD
  have HL := hid h
  clear hD h
  unfold rootV
  have q1 := c_eql; have q2 := c_eqlC
  have s1 := a_isR; have s2 := a_unR; have s3 := a_usR
  have s4 := a_isC; have s5 := a_unC
  have m1 := m_unC
  go_enter Tryd.func31, Tryd.ntmps31
  go_wp2_with fail
  go_loopw [0] (fun v wr => w = wr ∧ ∃ ms : List FL, LinksAt w (rootV r) ms v) (fun v _ => D v)
  case atStart => exact ⟨rfl, ls, HL.out⟩
  case round =>
    obtain ⟨rfl, ms, hm⟩ := hrel
    cases ms with
    | nil =>
      have e := hm
      simp only [LinksAt] at e
      subst e
      unfold rootV at *
      by_cases hrc : r = c
      · have hrc' : (r == c) = true := by simpa using hrc
        clear hrc
        have HR := hid hrc'
        go_wp2_with fail
        go_ret
        exact ⟨ret_bool HR.out.symm, rfl⟩
      · have hrc' : (r == c) = false := by simpa using hrc
        clear hrc
        have HR := hid hrc'
        go_wp2_with fail
        go_ret
        exact ⟨ret_bool HR.out.symm, rfl⟩
    | cons l ms =>
      obtain ⟨blk, e, rfl, h2, h3⟩ := hm
      have HE := hid h3
      clear h3
      go_wp2_with fail
      refine (unwrap_chain blk l e _ h2).mono ?_; rintro x w' ⟨rfl, rfl⟩
      cases ms with
      | nil =>
        have e := HE.out
        simp only [LinksAt] at e
        subst e
        unfold rootV
        go_wp2_with fail
        go_roundw
        case rel => exact ⟨trivial, [], rfl⟩
        case measure =>
          rw [HD.out (l :: []) _ ⟨_, _, rfl, h2, HE.out⟩, HD.out [] _ (by simp [LinksAt, rootV])]; simp
      | cons l2 ms =>
        obtain ⟨blk2, e2, rfl, h4, h5⟩ := HE.out
        go_wp2_with fail
        go_roundw
        case rel => exact ⟨trivial, l2 :: ms, ⟨_, _, rfl, h4, h5⟩⟩
        case measure =>
          rw [HD.out (l :: l2 :: ms) _ ⟨_, _, rfl, h2, ⟨_, _, rfl, h4, h5⟩⟩, HD.out (l2 :: ms) _ ⟨_, _, rfl, h4, h5⟩]; simp
end Go.Proofs.YtlkhbepmkembgaaDoor
