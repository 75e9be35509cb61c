/- looks. -/
import Derived.Test.YtnfdkpjklenllaaDo
namespace Go.Proofs.Ytnfdkpjklenllaa
open Go.RowKit
def Wr2 (f : Nat) (p : Option Addr) (L : List Int) (w1 : World) : Prop := Calls Try.prog f #[.pointer p] w1 (fun e w' => ∃ a c, e = .returned (.slice a L.length c) ∧ Own w' 3 1 (.slice a L.length c) L.length (ints L) ∧ Kept (fun _ => False) w1 w')
set_option maxRecDepth 100000 in
set_option maxHeartbeats 4000000 in
theorem looks_set {w : World} {p : Option Addr} {xb : Nat} {off : Bool} {n ops : Int} {L : List Int}
    (c0 : w.cell? ⟨xb, 0, none⟩ = some (.int .i64 n)) (c3 : w.cell? ⟨xb, 3, none⟩ = some (.bool off)) (c5 : w.cell? ⟨xb, 5, none⟩ = some (.int .i64 ops))
    (h1 : ∀ w1, Kept (fun _ => False) w w1 → Calls Try.prog 18 #[.pointer p] w1 fun e w' => e = .returned (.bool (!off)) ∧ Kept (fun _ => False) w1 w')
    (h2 : ∀ w1, Kept (fun _ => False) w w1 → Calls Try.prog 20 #[.pointer p] w1 fun e w' => e = .returned (.int .i64 ops) ∧ Kept (fun _ => False) w1 w')
    (h3 : ∀ w1, Kept (fun _ => False) w w1 → Calls Try.prog 28 #[.pointer p] w1 fun e w' => e = .returned (.int .i64 n) ∧ Kept (fun _ => False) w1 w')
    (h4 : ∀ w1, Kept (fun _ => False) w w1 → Wr2 36 p L w1)
    (h5 : ∀ w1, Kept (fun _ => False) w w1 → Wr2 38 (some ⟨xb, 0, none⟩) L w1) :
    Calls Try.prog 23 #[.pointer p, .pointer (some ⟨xb, 0, none⟩)] w fun e w' => e = .returned (.bool true) ∧ Kept (fun _ => False) w w' := by
  have H1 := hid h1; have H2 := hid h2; have H3 := hid h3; have H4 := hid h4; have H5 := hid h5
  have HC := hid (show w.cell? ⟨xb, 0, none⟩ = some (.int .i64 n) ∧ w.cell? ⟨xb, 3, none⟩ = some (.bool off) ∧ w.cell? ⟨xb, 5, none⟩ = some (.int .i64 ops) from ⟨c0, c3, c5⟩)
  clear h1 h2 h3 h4 h5 c0 c3 c5
  have go : ∀ w1, Kept (fun _ => False) w w1 → w1.cell? ⟨xb, 0, none⟩ = some (.int .i64 n) ∧ w1.cell? ⟨xb, 3, none⟩ = some (.bool off) ∧ w1.cell? ⟨xb, 5, none⟩ = some (.int .i64 ops) := fun w1 k => ⟨k.cell HC.out.1 id, k.cell HC.out.2.1 id, k.cell HC.out.2.2 id⟩
  have GO := hid go
  clear go
  have s0 := GO.out w.drew ((Kept.refl _ w).drew)
  have K0 := hid (show Kept (fun _ => False) w w.drew from (Kept.refl _ w).drew)
  cases off
  case false =>
    go_enter Try.func23, Try.ntmps23
    go_wp2_with fail
    go_region_held3 (fun w' => w'.cell? ⟨xb, 0, none⟩ = some (.int .i64 n) ∧ w'.cell? ⟨xb, 3, none⟩ = some (.bool false) ∧ w'.cell? ⟨xb, 5, none⟩ = some (.int .i64 ops)) (first | exact s0 | exact s1 | exact s2 | exact s3 | exact s4 | exact s5 | exact s6)
      (first
        | (go_at_call 18; refine (H1.out w.drew K0.out).mono ?_; rintro e w1 ⟨he, hk⟩; subst he; have K1 := hid (K0.out.trans hk); have s1 := GO.out w1 K1.out; clear hk K0 s0)
        | (go_at_call 20; refine (H2.out w1 K1.out).mono ?_; rintro e w2 ⟨he, hk⟩; subst he; have K2 := hid (K1.out.trans hk); have s2 := GO.out w2 K2.out; clear hk K1 s1)
        | (go_at_call 28; refine (H3.out w2 K2.out).mono ?_; rintro e w3 ⟨he, hk⟩; subst he; have K3 := hid (K2.out.trans hk); have s3 := GO.out w3 K3.out; clear hk K2 s2)
        | (go_at_call 36; refine (show Calls _ _ _ _ _ from H4.out w3 K3.out).mono ?_; rintro e w4 ⟨a4, q4, he, ho, hk⟩; subst he; have HO4 := hid ho; have K4 := hid (K3.out.trans hk); have s4 := GO.out w4 K4.out; clear hk ho K3 s3)
        | (go_at_call 38; refine (show Calls _ _ _ _ _ from H5.out w4 K4.out).mono ?_; rintro e w5 ⟨a5, q5, he, ho, hk⟩; subst he; have HO5 := hid ho; have HO45 := hid (HO4.out.kept hk (fun _ _ => id)); have K5 := hid (K4.out.trans hk); have s5 := GO.out w5 K5.out; clear hk ho K4 s4)
        | (go_at_call 37; refine (same_places HO45.out HO5.out).mono ?_; rintro e w6 ⟨he, hk⟩; subst he; have K6 := hid (K5.out.trans hk); have s6 := GO.out w6 K6.out; clear hk K5 s5))
    clear s6
    go_wp2
    go_ret
    exact ⟨rfl, K6.out⟩
  case true =>
    go_enter Try.func23, Try.ntmps23
    go_wp2_with fail
    go_region_held3 (fun w' => w'.cell? ⟨xb, 0, none⟩ = some (.int .i64 n) ∧ w'.cell? ⟨xb, 3, none⟩ = some (.bool true) ∧ w'.cell? ⟨xb, 5, none⟩ = some (.int .i64 ops)) (first | exact s0 | exact s1 | exact s2 | exact s3 | exact s4 | exact s5 | exact s6)
      (first
        | (go_at_call 18; refine (H1.out w.drew K0.out).mono ?_; rintro e w1 ⟨he, hk⟩; subst he; have K1 := hid (K0.out.trans hk); have s1 := GO.out w1 K1.out; clear hk K0 s0)
        | (go_at_call 20; refine (H2.out w1 K1.out).mono ?_; rintro e w2 ⟨he, hk⟩; subst he; have K2 := hid (K1.out.trans hk); have s2 := GO.out w2 K2.out; clear hk K1 s1)
        | (go_at_call 28; refine (H3.out w2 K2.out).mono ?_; rintro e w3 ⟨he, hk⟩; subst he; have K3 := hid (K2.out.trans hk); have s3 := GO.out w3 K3.out; clear hk K2 s2)
        | (go_at_call 36; refine (show Calls _ _ _ _ _ from H4.out w3 K3.out).mono ?_; rintro e w4 ⟨a4, q4, he, ho, hk⟩; subst he; have HO4 := hid ho; have K4 := hid (K3.out.trans hk); have s4 := GO.out w4 K4.out; clear hk ho K3 s3)
        | (go_at_call 38; refine (show Calls _ _ _ _ _ from H5.out w4 K4.out).mono ?_; rintro e w5 ⟨a5, q5, he, ho, hk⟩; subst he; have HO5 := hid ho; have HO45 := hid (HO4.out.kept hk (fun _ _ => id)); have K5 := hid (K4.out.trans hk); have s5 := GO.out w5 K5.out; clear hk ho K4 s4)
        | (go_at_call 37; refine (same_places HO45.out HO5.out).mono ?_; rintro e w6 ⟨he, hk⟩; subst he; have K6 := hid (K5.out.trans hk); have s6 := GO.out w6 K6.out; clear hk K5 s5))
    clear s6
    go_wp2
    go_ret
    exact ⟨rfl, K6.out⟩
set_option maxHeartbeats 4000000 in
theorem looks_nil {w : World} : Calls Try.prog 23 #[.pointer none, .pointer none] w fun e w' => e = .returned (.bool true) ∧ Kept (fun _ => False) w w' := by
  go_enter Try.func23, Try.ntmps23
  go_wp2_with fail
  refine on_nil.mono ?_
  rintro e w1 ⟨rfl, rfl⟩
  go_wp2_with fail
  refine ops_nil.mono ?_
  rintro e w1 ⟨rfl, rfl⟩
  go_wp2_with fail
  refine len_nil.mono ?_
  rintro e w1 ⟨rfl, rfl⟩
  go_wp2_with fail
  refine written_nil.mono ?_
  rintro e w1 ⟨rfl, rfl⟩
  go_wp2
  go_ret
  exact ⟨rfl, Kept.refl _ _⟩
end Go.Proofs.Ytnfdkpjklenllaa
