/- StampEldest's walk. -/
import Derived.Test.YtfkkfjmdpkgicaaT
import Derived.Test.YtfkkfjmdpkgicaaB
import Derived.Test.YtfkkfjmdpkgicaaArg
import Derived.Test.YtfkkfjmdpkgicaaReg
namespace Go.Proofs.Ytfkkfjmdpkgicaa
open Go.RowKit Go.Shelf
theorem cellsSt : Try.prog.cellsOf 46 = 4 := by kernel_rfl
theorem bytesSt : Try.prog.bytesOf 46 = 24 := by kernel_rfl
theorem stamp_read {w : World} {es : List Value} (hl : es.length = 4) (h : Rd Try.prog w 46 es) : ∃ x : Sp, es = encS x ∧ True := by
  have c1 : Try.prog.cellsOf 27 = 1 := by kernel_rfl
  have c3 : Try.prog.cellsOf 44 = 3 := by kernel_rfl
  have c5 : Try.prog.cellsOf 5 = 1 := by kernel_rfl
  have c6 : Try.prog.cellsOf 42 = 1 := by kernel_rfl
  match es, hl with
  | [x0, x1, x2, x3], _ =>
    have h0 : Rd Try.prog w 27 [x0] := h.field Try.underlying46 0 27 0 1 rfl c1
    have ht : Rd Try.prog w 44 [x1, x2, x3] := h.field Try.underlying46 1 44 1 3 rfl c3
    have h1 : Rd Try.prog w 5 [x1] := ht.field Try.underlying44 0 5 0 1 rfl c5
    have h2 : Rd Try.prog w 42 [x2] := ht.field Try.underlying44 1 42 1 1 rfl c6
    have h3 : Rd Try.prog w 42 [x3] := ht.field Try.underlying44 2 42 2 1 rfl c6
    obtain ⟨a0, e0, _⟩ := h0.int Try.underlying27
    obtain ⟨a1, e1, _⟩ := h1.int Try.underlying5
    obtain ⟨a2, e2, _⟩ := h2.int Try.underlying42
    obtain ⟨a3, e3, _⟩ := h3.int Try.underlying42
    simp only [List.cons.injEq, and_true] at e0 e1 e2 e3
    subst e0 e1 e2 e3
    exact ⟨(a0, a1, a2, a3), rfl, trivial⟩
theorem stlist_read {w : World} {v : Value} (h : RdV Try.prog w 41 v) : ∃ (a : Option Addr) (cap : Nat) (L : List Sp), v = .slice a L.length cap ∧ Lies (fun g => w.heap.size ≤ g) w 4 (.slice a L.length cap) L.length (L.flatMap encS) := by
  obtain ⟨a, len, cap, rfl, h0⟩ := h.slice Try.underlying41
  obtain ⟨l, hl, hv, hb, hq⟩ := lies_of encS 4 (fun _ => rfl) (by decide) (fun x u hu => by simp [encS] at hu; rcases hu with rfl | rfl | rfl | rfl <;> rfl) (0, 0, 0, 0) Try.underlying41 cellsSt (fun _ => True) (fun es h1 h2 => stamp_read h1 h2) h0
  subst hl
  exact ⟨a, cap, l, rfl, hv⟩
theorem keep4 {w w' : World} (hk : Kept (fun _ => False) w w') {a b c d : Addr} {p q r s : Value} {a2 b2 c2 d2 : Addr} {p2 q2 r2 s2 : Value} {a3 b3 c3 d3 : Addr} {p3 q3 r3 s3 : Value} {a4 b4 c4 d4 : Addr} {p4 q4 r4 s4 : Value}
    (h : (w.cell? a = some p ∧ w.cell? b = some q ∧ w.cell? c = some r ∧ w.cell? d = some s) ∧ (w.cell? a2 = some p2 ∧ w.cell? b2 = some q2 ∧ w.cell? c2 = some r2 ∧ w.cell? d2 = some s2) ∧ (w.cell? a3 = some p3 ∧ w.cell? b3 = some q3 ∧ w.cell? c3 = some r3 ∧ w.cell? d3 = some s3) ∧ w.cell? a4 = some p4 ∧ w.cell? b4 = some q4 ∧ w.cell? c4 = some r4 ∧ w.cell? d4 = some s4) :
    (w'.cell? a = some p ∧ w'.cell? b = some q ∧ w'.cell? c = some r ∧ w'.cell? d = some s) ∧ (w'.cell? a2 = some p2 ∧ w'.cell? b2 = some q2 ∧ w'.cell? c2 = some r2 ∧ w'.cell? d2 = some s2) ∧ (w'.cell? a3 = some p3 ∧ w'.cell? b3 = some q3 ∧ w'.cell? c3 = some r3 ∧ w'.cell? d3 = some s3) ∧ w'.cell? a4 = some p4 ∧ w'.cell? b4 = some q4 ∧ w'.cell? c4 = some r4 ∧ w'.cell? d4 = some s4 := by
  obtain ⟨⟨h1, h2, h3, h4⟩, ⟨h5, h6, h7, h8⟩, ⟨h9, h10, h11, h12⟩, h13, h14, h15, h16⟩ := h
  exact ⟨⟨hk.cell h1 id, hk.cell h2 id, hk.cell h3 id, hk.cell h4 id⟩, ⟨hk.cell h5 id, hk.cell h6 id, hk.cell h7 id, hk.cell h8 id⟩, ⟨hk.cell h9 id, hk.cell h10 id, hk.cell h11 id, hk.cell h12 id⟩, hk.cell h13 id, hk.cell h14 id, hk.cell h15 id, hk.cell h16 id⟩
set_option maxRecDepth 100000 in
set_option maxHeartbeats 4000000 in
theorem eldest_walk (W : World) (args : Array Value) (h : RdAll Try.prog W Try.f6.params.toList args.toList) :
    Calls Try.prog 6 args W fun e W' => e = .returned (.bool true) ∧ Below W.heap.size W W' := by
  rw [Try.params6] at h
  obtain ⟨v0, v1, rfl⟩ : ∃ v0 v1, args = #[v0, v1] := by
    rcases args with ⟨_ | ⟨v0, _ | ⟨v1, _ | ⟨v2, l⟩⟩⟩⟩ <;> simp [RdAll] at h
    exact ⟨v0, v1, rfl⟩
  obtain ⟨r0, r1, _⟩ := h
  obtain ⟨a, ca, LA, rfl, hA⟩ := stlist_read r0
  obtain ⟨b, cb, LB, rfl, hB⟩ := stlist_read r1
  have HA := hid hA; have HB := hid hB
  clear r0 r1 hA hB
  go_enter Try.func6, Try.ntmps6
  go_wp2_with fail
  refine (awake_any _).mono ?_; rintro e w1 ⟨rfl, hb1⟩
  have K1 := hid (Kept.of_below hb1 (fun _ => False))
  clear hb1
  obtain ⟨ha1, ha2⟩ := lies_cap HA.out
  obtain ⟨hb1, hb2⟩ := lies_cap HB.out
  unfold maxLen at ha2 hb2
  obtain ⟨NA, hNA⟩ : ∃ N, min LA.length 60 = N := ⟨_, rfl⟩
  obtain ⟨NB, hNB⟩ : ∃ N, min LB.length 60 = N := ⟨_, rfl⟩
  have hNA1 : NA ≤ LA.length := by omega
  have hNB1 : NB ≤ LB.length := by omega
  have hNA2 : NA ≤ 60 := by omega
  have hNB2 : NB ≤ 60 := by omega
  have hiA : min (LA.length : Int) 60 = (NA : Int) := by omega
  have hiB : min (LB.length : Int) 60 = (NB : Int) := by omega
  have HA1 := hid (HA.out.pre rfl hNA1); have HB1 := hid (HB.out.pre rfl hNB1)
  obtain ⟨A, hA⟩ : ∃ A, LA.take NA = A := ⟨_, rfl⟩
  obtain ⟨B, hB⟩ : ∃ B, LB.take NB = B := ⟨_, rfl⟩
  have hAl : A.length = NA := by rw [← hA, List.length_take]; omega
  have hBl : B.length = NB := by rw [← hB, List.length_take]; omega
  rw [hA] at HA1
  rw [hB] at HB1
  have HAL := hid hAl; have HBL := hid hBl
  clear hNA hNB hA hB hAl hBl
  go_wp2_with fail
  go_region
  have HA2 := hid ((HA1.out.same K1.out).same (Kept.refl (fun _ => False) w1).drew); have HB2 := hid ((HB1.out.same K1.out).same (Kept.refl (fun _ => False) w1).drew)
  have K2 := hid (K1.out.trans (Kept.refl (fun _ => False) w1).drew)
  obtain ⟨w2, hw2⟩ : ∃ w2, w1.drew = w2 := ⟨_, rfl⟩
  rw [hw2] at HA2 HB2 K2 ⊢
  clear hw2 hiA hiB HA HB HA1 HB1 K1
  go_wp2_with fail
  refine (stamps_lies HA2.out HAL.out (by omega)).mono ?_
  rintro e w3 ⟨p1, q1, rfl, hl, hk⟩
  have L3 := hid hl; have K3 := hid (K2.out.trans hk); have HA3 := hid (HA2.out.same hk); have HB3 := hid (HB2.out.same hk)
  clear hl hk HA2 HB2 K2
  go_wp2_with fail
  refine (eldest_all L3.out HAL.out (by omega)).mono ?_
  rintro e w4 ⟨rfl, hk⟩
  obtain ⟨⟨x1, x2, x3, x4⟩, hx⟩ : ∃ x, eldO A = x := ⟨_, rfl⟩
  obtain ⟨bA, hbA⟩ : ∃ b, has A = b := ⟨_, rfl⟩
  rw [hx, hbA]
  simp only [sv]
  have HX := hid hx; have HBA := hid hbA
  have K4 := hid (K3.out.trans hk); have HA4 := hid (HA3.out.same hk); have HB4 := hid (HB3.out.same hk)
  clear hk HA3 HB3 K3 L3 hx hbA
  go_wp2_with fail
  have hr5 := row_new w4 (.cells #[.int .u64 x1, .int .u8 x2, .int .u32 x3, .int .u32 x4] 48)
  have hk5 := (Kept.refl (fun _ => False) w4).alloc (.cells #[.int .u64 x1, .int .u8 x2, .int .u32 x3, .int .u32 x4] 48)
  obtain ⟨w5, hw5⟩ : ∃ w5, w4.alloc (.cells #[.int .u64 x1, .int .u8 x2, .int .u32 x3, .int .u32 x4] 48) = w5 := ⟨_, rfl⟩
  obtain ⟨xb, hxb⟩ : ∃ xb, w4.heap.size = xb := ⟨_, rfl⟩
  rw [hw5] at hr5 hk5 ⊢
  rw [hxb] at hr5 ⊢
  have XB5 := hid hr5; have K5 := hid (K4.out.trans hk5); have HA5 := hid (HA4.out.same hk5); have HB5 := hid (HB4.out.same hk5)
  have HXZ := hid (show W.heap.size ≤ xb by have := K4.out.size; omega)
  clear hr5 hk5 hw5 hxb HA4 HB4 K4
  refine (stamps_lies HB5.out HBL.out (by omega)).mono ?_
  rintro e w6 ⟨p2, q2, rfl, hl, hk⟩
  have L6 := hid hl; have K6 := hid (K5.out.trans hk); have HA6 := hid (HA5.out.same hk); have HB6 := hid (HB5.out.same hk); have XB6 := hid ((hk.block xb (row_lt XB5.out) id).trans XB5.out)
  clear hl hk HA5 HB5 K5 XB5
  go_wp2_with fail
  refine (eldest_all L6.out HBL.out (by omega)).mono ?_
  rintro e w7 ⟨rfl, hk⟩
  obtain ⟨⟨y1, y2, y3, y4⟩, hy⟩ : ∃ x, eldO B = x := ⟨_, rfl⟩
  obtain ⟨bB, hbB⟩ : ∃ b, has B = b := ⟨_, rfl⟩
  rw [hy, hbB]
  simp only [sv]
  have HY := hid hy; have HBB := hid hbB
  have K7 := hid (K6.out.trans hk); have HA7 := hid (HA6.out.same hk); have HB7 := hid (HB6.out.same hk); have XB7 := hid ((hk.block xb (row_lt XB6.out) id).trans XB6.out)
  clear hk HA6 HB6 K6 L6 hy hbB XB6
  go_wp2_with fail
  have htw := two_new w7 (.cells #[.int .u64 y1, .int .u8 y2, .int .u32 y3, .int .u32 y4] 48) (.cells #[] 48)
  have hk8 := ((Kept.refl (fun _ => False) w7).alloc (.cells #[.int .u64 y1, .int .u8 y2, .int .u32 y3, .int .u32 y4] 48)).alloc (.cells #[] 48)
  obtain ⟨w8, hw8⟩ : ∃ w8, (w7.alloc (.cells #[.int .u64 y1, .int .u8 y2, .int .u32 y3, .int .u32 y4] 48)).alloc (.cells #[] 48) = w8 := ⟨_, rfl⟩
  obtain ⟨yb, hyb⟩ : ∃ yb, w7.heap.size = yb := ⟨_, rfl⟩
  rw [hw8] at htw hk8 ⊢
  rw [hyb] at htw ⊢
  have YB8 := hid htw.1; have EB8 := hid htw.2; have XB8 := hid ((hk8.block xb (row_lt XB7.out) id).trans XB7.out)
  have K8 := hid (K7.out.trans hk8); have HA8 := hid (HA7.out.same hk8); have HB8 := hid (HB7.out.same hk8)
  have HYZ := hid (show W.heap.size ≤ yb by have := K7.out.size; omega)
  have HXY := hid (show xb < yb by have := row_lt XB7.out; omega)
  clear htw hk8 hw8 hyb HA7 HB7 K7 XB7
  refine (stamps_lies HA8.out HAL.out (by omega)).mono ?_
  rintro e w9 ⟨p3, q3, rfl, hl, hk⟩
  have LA9 := hid hl; have K9 := hid (K8.out.trans hk); have HA9 := hid (HA8.out.same hk); have HB9 := hid (HB8.out.same hk); have XB9 := hid ((hk.block xb (row_lt XB8.out) id).trans XB8.out); have YB9 := hid ((hk.block yb (row_lt YB8.out) id).trans YB8.out)
  have OE := hid (show Own w9 48 4 (.slice (some ⟨yb + 1, 0, none⟩) 0 0) 0 [] from Own.mk (n := 0) ((hk.block (yb + 1) (row_lt EB8.out) id).trans EB8.out) (Nat.le_refl _) (Nat.zero_le _) rfl)
  clear hl hk HA8 HB8 K8 XB8 YB8 EB8
  go_wp2_with (first | (at_builtin; go_loud (refine wpList_app rfl _ _ 50 rfl 48 _ 4 24 Try.underlying50 infoS rfl (by decide) _ 0 [] rfl (by exact OE.out) _ rfl NA _ (by exact LA9.out.src) ?aa ?bb ?_; (case aa => (unfold maxLen; omega)); (case bb => omega); intro p4 q4 w10 ho3 hk3 hf3 hj1; clear hj1; have O10 := hid ho3; have K10 := hid hk3; have F10 := hid hf3; clear ho3 hk3 hf3)))
  rw [Nat.zero_add, List.nil_append] at O10
  rw [Nat.zero_add] at F10
  have hob : ∀ i, (Value.slice (some ⟨yb + 1, 0, none⟩) 0 0).ownBlock = some i → i = yb + 1 := fun i h => by simp [Value.ownBlock] at h; omega
  have KW10 := hid (K9.out.trans' K10.out (fun i h => .inr (by have := hob i h; have := HYZ.out; omega)))
  have HA10 := hid (HA9.out.kept K10.out (fun g _ h => by have := hob g h; have := HYZ.out; show W.heap.size ≤ g; omega)); have HB10 := hid (HB9.out.kept K10.out (fun g _ h => by have := hob g h; have := HYZ.out; show W.heap.size ≤ g; omega))
  have XB10 := hid ((K10.out.block xb (row_lt XB9.out) (fun h => by have := hob xb h; have := HXY.out; omega)).trans XB9.out)
  have YB10 := hid ((K10.out.block yb (row_lt YB9.out) (fun h => by have := hob yb h; omega)).trans YB9.out)
  have hF10 : ∀ g, (Value.slice p4 NA q4).ownBlock = some g → yb + 1 ≤ g := fun g h => by
    rcases F10.out g h with h | h
    · have := hob g h; omega
    · have := row_lt YB9.out; omega
  have HF10 := hid hF10
  clear hob hF10 K10 F10 LA9 OE HA9 HB9 XB9 YB9 K9
  refine (stamps_lies HB10.out HBL.out (by omega)).mono ?_
  rintro e w11 ⟨p5, q5, rfl, hl, hk⟩
  have L11 := hid hl; have K11 := hid (KW10.out.trans hk); have HA11 := hid (HA10.out.same hk); have HB11 := hid (HB10.out.same hk); have XB11 := hid ((hk.block xb (row_lt XB10.out) id).trans XB10.out); have YB11 := hid ((hk.block yb (row_lt YB10.out) id).trans YB10.out); have O11 := hid (O10.out.kept hk (fun _ _ => id))
  clear hl hk HA10 HB10 XB10 YB10 KW10 O10
  go_wp2_with (first | (at_builtin; go_loud (refine wpList_app rfl _ _ 50 rfl 48 _ 4 24 Try.underlying50 infoS rfl (by decide) _ NA (A.flatMap encS) rfl (by exact O11.out) _ rfl NB _ (by exact L11.out.src) ?aa ?bb ?_; (case aa => (unfold maxLen; omega)); (case bb => omega); intro p6 q6 w12 ho3 hk3 hf3 hj2; clear hj2; have O12 := hid ho3; have K12 := hid hk3; have F12 := hid hf3; clear ho3 hk3 hf3)))
  have hfl : A.flatMap encS ++ B.flatMap encS = (A ++ B).flatMap encS := by simp
  have L12 := hid (O12.out.lies (F := fun _ => False) (by rw [hfl]; exact encS_one _) (fun _ _ => id))
  rw [hfl] at L12
  have hlAB : (A ++ B).length = NA + NB := by rw [List.length_append, HAL.out, HBL.out]
  have HLAB := hid hlAB
  have KW12 := hid (K11.out.trans' K12.out (fun i h => .inr (by have := HF10.out i h; have := HYZ.out; omega)))
  have HA12 := hid (HA11.out.kept K12.out (fun g _ h => by have := HF10.out g h; have := HYZ.out; show W.heap.size ≤ g; omega))
  have XB12 := hid ((K12.out.block xb (row_lt XB11.out) (fun h => by have := HF10.out xb h; have := HXY.out; omega)).trans XB11.out)
  have YB12 := hid ((K12.out.block yb (row_lt YB11.out) (fun h => by have := HF10.out yb h; omega)).trans YB11.out)
  clear hfl hlAB K11 K12 F12 HA11 HB11 XB11 YB11 O11 O12 L11 HF10
  refine (eldest_all L12.out HLAB.out (by omega)).mono ?_
  rintro e w13 ⟨rfl, hk⟩
  obtain ⟨⟨z1, z2, z3, z4⟩, hz⟩ : ∃ x, eldO (A ++ B) = x := ⟨_, rfl⟩
  obtain ⟨bC, hbC⟩ : ∃ b, has (A ++ B) = b := ⟨_, rfl⟩
  rw [hz, hbC]
  simp only [sv]
  have HLAW := hid (show ((z1, z2, z3, z4), bC) = (if bB = true ∧ (bA = false ∨ eldS (y1, y2, y3, y4) (x1, x2, x3, x4)) then ((y1, y2, y3, y4), true) else ((x1, x2, x3, x4), bA)) from by
    rw [← hz, ← hbC, eldO_app, HX.out, HY.out, HBA.out, HBB.out])
  have K13 := hid (KW12.out.trans hk); have HA13 := hid (HA12.out.same hk); have XB13 := hid ((hk.block xb (row_lt XB12.out) id).trans XB12.out); have YB13 := hid ((hk.block yb (row_lt YB12.out) id).trans YB12.out)
  clear hk hz hbC KW12 HA12 XB12 YB12 L12
  have hx0 := cells4' XB13.out
  have hy0 := cells4' YB13.out
  have s1 : ∀ o, (w13.alloc o).cell? ⟨xb, 0, none⟩ = some (.int .u64 x1) ∧ (w13.alloc o).cell? ⟨xb, 1, none⟩ = some (.int .u8 x2) ∧ (w13.alloc o).cell? ⟨xb, 2, none⟩ = some (.int .u32 x3) ∧ (w13.alloc o).cell? ⟨xb, 3, none⟩ = some (.int .u32 x4) := fun o => by
    have k := (Kept.refl (fun _ => False) w13).alloc o
    exact ⟨k.cell hx0.1 id, k.cell hx0.2.1 id, k.cell hx0.2.2.1 id, k.cell hx0.2.2.2 id⟩
  have s2 : ∀ o o', ((w13.alloc o).alloc o').cell? ⟨xb, 0, none⟩ = some (.int .u64 x1) ∧ ((w13.alloc o).alloc o').cell? ⟨xb, 1, none⟩ = some (.int .u8 x2) ∧ ((w13.alloc o).alloc o').cell? ⟨xb, 2, none⟩ = some (.int .u32 x3) ∧ ((w13.alloc o).alloc o').cell? ⟨xb, 3, none⟩ = some (.int .u32 x4) := fun o o' => by
    have k := ((Kept.refl (fun _ => False) w13).alloc o).alloc o'
    exact ⟨k.cell hx0.1 id, k.cell hx0.2.1 id, k.cell hx0.2.2.1 id, k.cell hx0.2.2.2 id⟩
  have s3 : ∀ o o', ((w13.alloc o).alloc o').cell? ⟨yb, 0, none⟩ = some (.int .u64 y1) ∧ ((w13.alloc o).alloc o').cell? ⟨yb, 1, none⟩ = some (.int .u8 y2) ∧ ((w13.alloc o).alloc o').cell? ⟨yb, 2, none⟩ = some (.int .u32 y3) ∧ ((w13.alloc o).alloc o').cell? ⟨yb, 3, none⟩ = some (.int .u32 y4) := fun o o' => by
    have k := ((Kept.refl (fun _ => False) w13).alloc o).alloc o'
    exact ⟨k.cell hy0.1 id, k.cell hy0.2.1 id, k.cell hy0.2.2.1 id, k.cell hy0.2.2.2 id⟩
  cases bB with
  | false =>
    have hzx : z1 = x1 ∧ z2 = x2 ∧ z3 = x3 ∧ z4 = x4 ∧ bC = bA := by
      have h := HLAW.out
      simp only [Bool.false_eq_true, false_and, if_false, Prod.mk.injEq] at h
      exact ⟨h.1.1, h.1.2.1, h.1.2.2.1, h.1.2.2.2, h.2⟩
    clear HLAW
    obtain ⟨e1, e2, e3, e4, e5⟩ := hzx
    subst e1 e2 e3 e4 e5
    go_wp2_with fail
    clear s1 s2 s3 hx0 hy0
    obtain ⟨zb, hzb⟩ : ∃ zb, w13.heap.size = zb := ⟨_, rfl⟩
    obtain ⟨wb, hwb⟩ : ∃ wb, wb = zb + 1 := ⟨_, rfl⟩
    have htw := two_new w13 (.cells #[.int .u64 z1, .int .u8 z2, .int .u32 z3, .int .u32 z4] 48) (.cells #[.int .u64 z1, .int .u8 z2, .int .u32 z3, .int .u32 z4] 48)
    have hk14 := ((Kept.refl (fun _ => False) w13).alloc (.cells #[.int .u64 z1, .int .u8 z2, .int .u32 z3, .int .u32 z4] 48)).alloc (.cells #[.int .u64 z1, .int .u8 z2, .int .u32 z3, .int .u32 z4] 48)
    obtain ⟨w14, hw14⟩ : ∃ w14, (w13.alloc (.cells #[.int .u64 z1, .int .u8 z2, .int .u32 z3, .int .u32 z4] 48)).alloc (.cells #[.int .u64 z1, .int .u8 z2, .int .u32 z3, .int .u32 z4] 48) = w14 := ⟨_, rfl⟩
    rw [hw14] at htw hk14 ⊢
    rw [hzb] at htw ⊢
    rw [← hwb] at htw ⊢
    have ZB14 := hid htw.1; have WB14 := hid htw.2
    have XB14 := hid ((hk14.block xb (row_lt XB13.out) id).trans XB13.out); have K14 := hid (K13.out.trans hk14); have HA14 := hid (HA13.out.same hk14)
    clear htw hk14 hw14 hzb hwb HA13 K13 XB13 YB13
    refine (stamps_lies HA14.out HAL.out (by omega)).mono ?_
    rintro e w15 ⟨p7, q7, rfl, hl, hk⟩
    have L15 := hid hl; have K15 := hid (K14.out.trans hk); have XB15 := hid ((hk.block xb (row_lt XB14.out) id).trans XB14.out); have ZB15 := hid ((hk.block zb (row_lt ZB14.out) id).trans ZB14.out); have WB15 := hid ((hk.block wb (row_lt WB14.out) id).trans WB14.out)
    clear hl hk K14 XB14 ZB14 WB14 HA14
    go_wp2_with fail
    refine (ssort_any L15.out HAL.out (by omega)).mono ?_
    rintro e w16 ⟨p8, q8, rfl, hs, hk⟩
    have hk1 := hk.trans (Kept.refl (fun _ => False) w16).drew
    have L16 := hid (hs.lies.same (Kept.refl (fun _ => False) w16).drew); have HSL := hid hs.1; have K16 := hid (K15.out.trans hk1); have XB16 := hid ((hk1.block xb (row_lt XB15.out) id).trans XB15.out); have ZB16 := hid ((hk1.block zb (row_lt ZB15.out) id).trans ZB15.out); have WB16 := hid ((hk1.block wb (row_lt WB15.out) id).trans WB15.out)
    clear hs hk hk1 K15 XB15 ZB15 WB15 L15
    have hc16 := lies_cap L16.out
    unfold maxLen at hc16
    obtain ⟨hc1, hc2⟩ := hc16
    go_wp2_with fail
    rcases Nat.eq_zero_or_pos NA with h0 | h0
    · have hd : ((NA : Int) == 0) = true := by rw [h0]; rfl
      clear h0
      have z1' := cells4' ZB16.out
      have w1' := cells4' WB16.out
      have s1 := And.intro z1' w1'
      clear z1' w1'
      refine wp_region_held_drew (S := fun w' => (w'.cell? ⟨zb, 0, none⟩ = some (.int .u64 z1) ∧ w'.cell? ⟨zb, 1, none⟩ = some (.int .u8 z2) ∧ w'.cell? ⟨zb, 2, none⟩ = some (.int .u32 z3) ∧ w'.cell? ⟨zb, 3, none⟩ = some (.int .u32 z4)) ∧ w'.cell? ⟨wb, 0, none⟩ = some (.int .u64 z1) ∧ w'.cell? ⟨wb, 1, none⟩ = some (.int .u8 z2) ∧ w'.cell? ⟨wb, 2, none⟩ = some (.int .u32 z3) ∧ w'.cell? ⟨wb, 3, none⟩ = some (.int .u32 z4)) (by kernel_rfl) (by exact s1) (fun hHeld => ?_)
      refine wpAnyH_at 0 (some 66) (v := ?v7100) (by decide) rfl (by kernel_rfl) (by kernel_rfl) (by kernel_rfl) (fun _ _ _ h => h) (Or.inl ⟨by rfl, ?y7100⟩) (by assumption) ?r7100
      case y7100 => (intro w hSw; (try dsimp only at hSw); go_simp; (try with_reducible rfl))
      simp only [Act.put, List.setIfInBounds_toArray, List.set_cons_zero, List.set_cons_succ]
      refine wpAnyH_at 1 (some 67) (v := ?v7101) (by decide) rfl (by kernel_rfl) (by kernel_rfl) (by kernel_rfl) (fun _ _ _ h => h) (Or.inl ⟨by rfl, ?y7101⟩) (by assumption) ?r7101
      case y7101 => (intro w hSw; (try dsimp only at hSw); go_simp; (try with_reducible rfl))
      simp only [Act.put, List.setIfInBounds_toArray, List.set_cons_zero, List.set_cons_succ]
      refine wpAnyH_at 2 (some 68) (v := ?v7102) (by decide) rfl (by kernel_rfl) (by kernel_rfl) (by kernel_rfl) (fun _ _ _ h => h) (Or.inl ⟨by rfl, ?y7102⟩) (by assumption) ?r7102
      case y7102 => (intro w hSw; (try dsimp only at hSw); go_simp; (try with_reducible rfl))
      simp only [Act.put, List.setIfInBounds_toArray, List.set_cons_zero, List.set_cons_succ]
      refine wpAnyH_at 3 (some 69) (v := ?v7103) (by decide) rfl (by kernel_rfl) (by kernel_rfl) (by kernel_rfl) (fun _ _ _ h => h) (Or.inl ⟨by rfl, ?y7103⟩) (by assumption) ?r7103
      case y7103 => (intro w hSw; (try dsimp only at hSw); go_simp; (try with_reducible rfl))
      simp only [Act.put, List.setIfInBounds_toArray, List.set_cons_zero, List.set_cons_succ]
      refine wpAnyH_at 4 (some 70) (v := ?v7104) (by decide) rfl (by kernel_rfl) (by kernel_rfl) (by kernel_rfl) (fun _ _ _ h => h) (Or.inl ⟨by rfl, ?y7104⟩) (by assumption) ?r7104
      case y7104 => (intro w hSw; (try dsimp only at hSw); go_simp; (try with_reducible rfl))
      simp only [Act.put, List.setIfInBounds_toArray, List.set_cons_zero, List.set_cons_succ]
      refine wpAnyH_at 5 (some 71) (v := ?v7105) (by decide) rfl (by kernel_rfl) (by kernel_rfl) (by kernel_rfl) (fun _ _ _ h => h) (Or.inl ⟨by rfl, ?y7105⟩) (by assumption) ?r7105
      case y7105 => (intro w hSw; (try dsimp only at hSw); go_simp; (try with_reducible rfl))
      simp only [Act.put, List.setIfInBounds_toArray, List.set_cons_zero, List.set_cons_succ]
      refine wpAnyH_at 6 (some 72) (v := ?v7106) (by decide) rfl (by kernel_rfl) (by kernel_rfl) (by kernel_rfl) (fun _ _ _ h => h) (Or.inl ⟨by rfl, ?y7106⟩) (by assumption) ?r7106
      case y7106 => (intro w hSw; (try dsimp only at hSw); go_simp; (try with_reducible rfl))
      simp only [Act.put, List.setIfInBounds_toArray, List.set_cons_zero, List.set_cons_succ]
      refine wpAnyH_at 7 (some 73) (v := ?v7107) (by decide) rfl (by kernel_rfl) (by kernel_rfl) (by kernel_rfl) (fun _ _ _ h => h) (Or.inl ⟨by rfl, ?y7107⟩) (by assumption) ?r7107
      case y7107 => (intro w hSw; (try dsimp only at hSw); go_simp; (try with_reducible rfl))
      simp only [Act.put, List.setIfInBounds_toArray, List.set_cons_zero, List.set_cons_succ]
      refine wpAnyH_at 8 (some 74) (v := ?v7108) (by decide) rfl (by kernel_rfl) (by kernel_rfl) (by kernel_rfl) (fun _ _ _ h => h) (Or.inl ⟨by rfl, ?y7108⟩) (by assumption) ?r7108
      case y7108 => (intro w hSw; (try dsimp only at hSw); go_simp; (try with_reducible rfl))
      simp only [Act.put, List.setIfInBounds_toArray, List.set_cons_zero, List.set_cons_succ]
      refine wpAnyH_at 9 (some 75) (v := ?v7109) (by decide) rfl (by kernel_rfl) (by kernel_rfl) (by kernel_rfl) (fun _ _ _ h => h) (Or.inl ⟨by rfl, ?y7109⟩) (by assumption) ?r7109
      case y7109 => (intro w hSw; (try dsimp only at hSw); go_simp; (try with_reducible rfl))
      simp only [Act.put, List.setIfInBounds_toArray, List.set_cons_zero, List.set_cons_succ]
      refine wpAnyH_at 12 (some 78) (v := ?v7112) (by decide) rfl (by kernel_rfl) (by kernel_rfl) (by kernel_rfl) (fun _ _ _ h => h) (Or.inl ⟨by rfl, ?y7112⟩) (by assumption) ?r7112
      case y7112 => (intro w hSw; (try dsimp only at hSw); go_simp; (try with_reducible rfl))
      simp only [Act.put, List.setIfInBounds_toArray, List.set_cons_zero, List.set_cons_succ]
      refine wpAnyH_ready (rs := [10]) (by kernel_rfl) (by simp) ?_
      refine AllReadyH.cons rfl (fun K hK => ?_) AllReadyH.nil
      go_simp
      refine (ssort_any L16.out HSL.out (by omega)).mono ?_
      rintro e w17 ⟨p9, q9, rfl, hs, hk⟩
      rw [sortS_sortS] at hs
      have L17 := hid hs.lies; have M17 := hid (L16.out.same hk); have KB17 := hid hk
      clear hs hk s1
      try dsimp only []
      refine hK.out _ _ (by exact And.intro (cells4' ((KB17.out.block zb (row_lt ZB16.out) id).trans ZB16.out)) (cells4' ((KB17.out.block wb (row_lt WB16.out) id).trans WB16.out))) (fun hHeld => ?_)
      clear hK K
      try simp only [Act.put, List.setIfInBounds_toArray, List.set_cons_zero, List.set_cons_succ]
      refine wpAnyH_ready (rs := [11]) (by kernel_rfl) (by simp) ?_
      refine AllReadyH.cons rfl (fun K hK => ?_) AllReadyH.nil
      go_simp
      refine (back_any L17.out HSL.out (by omega)).mono ?_
      rintro e w18 ⟨p10, q10, rfl, ho, hk⟩
      have L18 := hid (ho.lies (F := fun _ => False) (encS_one _) (fun _ _ => id)); have M18 := hid (M17.out.same hk); have KB18 := hid (KB17.out.trans hk)
      clear ho hk L17
      try dsimp only []
      refine hK.out _ _ (by exact And.intro (cells4' ((KB18.out.block zb (row_lt ZB16.out) id).trans ZB16.out)) (cells4' ((KB18.out.block wb (row_lt WB16.out) id).trans WB16.out))) (fun hHeld => ?_)
      clear hK K
      try simp only [Act.put, List.setIfInBounds_toArray, List.set_cons_zero, List.set_cons_succ]
      refine wpAnyH_ready (rs := [13]) (by kernel_rfl) (by simp) ?_
      refine AllReadyH.cons rfl (fun K hK => ?_) AllReadyH.nil
      go_simp
      refine (back_any M18.out HSL.out (by omega)).mono ?_
      rintro e w19 ⟨p11, q11, rfl, ho, hk⟩
      have L19 := hid (ho.lies (F := fun _ => False) (encS_one _) (fun _ _ => id)); have M19 := hid (L18.out.same hk); have KB19 := hid (KB18.out.trans hk)
      clear ho hk
      try dsimp only []
      refine hK.out _ _ (by exact And.intro (cells4' ((KB19.out.block zb (row_lt ZB16.out) id).trans ZB16.out)) (cells4' ((KB19.out.block wb (row_lt WB16.out) id).trans WB16.out))) (fun hHeld => ?_)
      clear hK K
      try simp only [Act.put, List.setIfInBounds_toArray, List.set_cons_zero, List.set_cons_succ]
      refine wpAnyH_ready (rs := [14]) (by kernel_rfl) (by simp) ?_
      refine AllReadyH.cons rfl (fun K hK => ?_) AllReadyH.nil
      go_simp
      refine (same_yes M19.out L19.out HSL.out (by omega)).mono ?_
      rintro e w20 ⟨rfl, hk⟩
      have KB20 := hid (KB19.out.trans hk)
      clear hk
      try dsimp only []
      refine hK.out _ _ (by exact And.intro (cells4' ((KB20.out.block zb (row_lt ZB16.out) id).trans ZB16.out)) (cells4' ((KB20.out.block wb (row_lt WB16.out) id).trans WB16.out))) (fun hHeld => ?_)
      clear hK K
      try simp only [Act.put, List.setIfInBounds_toArray, List.set_cons_zero, List.set_cons_succ]
      refine wpAnyH_at 15 (some 81) (v := ?v7115) (by decide) rfl (by kernel_rfl) (by kernel_rfl) (by kernel_rfl) (fun _ _ _ h => h) (Or.inl ⟨by rfl, ?y7115⟩) (by assumption) ?r7115
      case y7115 => (intro w hSw; (try dsimp only at hSw); go_simp; (try with_reducible rfl))
      simp only [Act.put, List.setIfInBounds_toArray, List.set_cons_zero, List.set_cons_succ]
      refine wpAnyH_at 16 (some 82) (v := ?v7116) (by decide) rfl (by kernel_rfl) (by kernel_rfl) (by kernel_rfl) (fun _ _ _ h => h) (Or.inl ⟨by rfl, ?y7116⟩) (by assumption) ?r7116
      case y7116 => (intro w hSw; (try dsimp only at hSw); go_simp; (try with_reducible rfl))
      simp only [Act.put, List.setIfInBounds_toArray, List.set_cons_zero, List.set_cons_succ]
      refine wpAnyH_at 17 (some 83) (v := ?v7117) (by decide) rfl (by kernel_rfl) (by kernel_rfl) (by kernel_rfl) (fun _ _ _ h => h) (Or.inl ⟨by rfl, ?y7117⟩) (by assumption) ?r7117
      case y7117 => (intro w hSw; (try dsimp only at hSw); go_simp; (try with_reducible rfl))
      simp only [Act.put, List.setIfInBounds_toArray, List.set_cons_zero, List.set_cons_succ]
      refine wpAnyH_at 18 (some 84) (v := ?v7118) (by decide) rfl (by kernel_rfl) (by kernel_rfl) (by kernel_rfl) (fun _ _ _ h => h) (Or.inl ⟨by rfl, ?y7118⟩) (by assumption) ?r7118
      case y7118 => (intro w hSw; (try dsimp only at hSw); go_simp; (try with_reducible rfl))
      simp only [Act.put, List.setIfInBounds_toArray, List.set_cons_zero, List.set_cons_succ]
      refine wpAnyH_at 19 (some 85) (v := ?v7119) (by decide) rfl (by kernel_rfl) (by kernel_rfl) (by kernel_rfl) (fun _ _ _ h => h) (Or.inl ⟨by rfl, ?y7119⟩) (by assumption) ?r7119
      case y7119 => (intro w hSw; (try dsimp only at hSw); go_simp; (try with_reducible rfl))
      simp only [Act.put, List.setIfInBounds_toArray, List.set_cons_zero, List.set_cons_succ]
      refine wpAnyH_at 20 (some 86) (v := ?v7120) (by decide) rfl (by kernel_rfl) (by kernel_rfl) (by kernel_rfl) (fun _ _ _ h => h) (Or.inl ⟨by rfl, ?y7120⟩) (by assumption) ?r7120
      case y7120 => (intro w hSw; (try dsimp only at hSw); go_simp; (try with_reducible rfl))
      simp only [Act.put, List.setIfInBounds_toArray, List.set_cons_zero, List.set_cons_succ]
      refine wpAnyH_at 21 (some 87) (v := undef) (by decide) rfl (by kernel_rfl) (by kernel_rfl) (by kernel_rfl) (fun _ _ _ h => h) (Or.inr ⟨by rfl, rfl⟩) (by assumption) ?_
      simp only [Act.put, List.setIfInBounds_toArray, List.set_cons_zero, List.set_cons_succ]
      refine wpAnyH_at 22 (some 88) (v := undef) (by decide) rfl (by kernel_rfl) (by kernel_rfl) (by kernel_rfl) (fun _ _ _ h => h) (Or.inr ⟨by rfl, rfl⟩) (by assumption) ?_
      simp only [Act.put, List.setIfInBounds_toArray, List.set_cons_zero, List.set_cons_succ]
      refine wpAnyH_at 23 (some 89) (v := undef) (by decide) rfl (by kernel_rfl) (by kernel_rfl) (by kernel_rfl) (fun _ _ _ h => h) (Or.inr ⟨by rfl, rfl⟩) (by assumption) ?_
      simp only [Act.put, List.setIfInBounds_toArray, List.set_cons_zero, List.set_cons_succ]
      refine wpAnyH_at 24 (some 90) (v := undef) (by decide) rfl (by kernel_rfl) (by kernel_rfl) (by kernel_rfl) (fun _ _ _ h => h) (Or.inr ⟨by rfl, rfl⟩) (by assumption) ?_
      simp only [Act.put, List.setIfInBounds_toArray, List.set_cons_zero, List.set_cons_succ]
      refine wpAnyH_at 25 (some 91) (v := undef) (by decide) rfl (by kernel_rfl) (by kernel_rfl) (by kernel_rfl) (fun _ _ _ h => h) (Or.inr ⟨by rfl, rfl⟩) (by assumption) ?_
      simp only [Act.put, List.setIfInBounds_toArray, List.set_cons_zero, List.set_cons_succ]
      refine wpAnyH_at 26 (some 92) (v := ?v7126) (by decide) rfl (by kernel_rfl) (by kernel_rfl) (by kernel_rfl) (fun _ _ _ h => h) (Or.inl ⟨by rfl, ?y7126⟩) (by assumption) ?r7126
      case y7126 => (intro w hSw; (try dsimp only at hSw); go_simp; (try with_reducible rfl))
      simp only [Act.put, List.setIfInBounds_toArray, List.set_cons_zero, List.set_cons_succ]
      refine wpAnyH_at 27 (some 93) (v := ?v7127) (by decide) rfl (by kernel_rfl) (by kernel_rfl) (by kernel_rfl) (fun _ _ _ h => h) (Or.inl ⟨by rfl, ?y7127⟩) (by assumption) ?r7127
      case y7127 => (intro w hSw; (try dsimp only at hSw); go_simp; (try with_reducible rfl))
      simp only [Act.put, List.setIfInBounds_toArray, List.set_cons_zero, List.set_cons_succ]
      refine wpAnyH_at 28 (some 4) (v := ?v7128) (by decide) rfl (by kernel_rfl) (by kernel_rfl) (by kernel_rfl) (fun _ _ _ h => h) (Or.inl ⟨by rfl, ?y7128⟩) (by assumption) ?r7128
      case y7128 => (intro w hSw; (try dsimp only at hSw); go_simp; (try with_reducible rfl))
      simp only [Act.put, List.setIfInBounds_toArray, List.set_cons_zero, List.set_cons_succ]
      refine wpAnyH_done (by kernel_rfl) ?_ _
      go_wp2
      go_ret
      exact ⟨rfl, (K16.out.trans KB20.out).below (Nat.le_refl _) (fun _ h => h.elim)⟩
    · have hd : ((NA : Int) == 0) = false := by rw [beq_eq_false_iff_ne]; omega
      have hpos : (0 : Int) < (NA : Int) := by omega
      obtain ⟨xx, hx1⟩ : ∃ xx, (sortS A)[0]? = some xx := ⟨_, List.getElem?_eq_getElem (by rw [HSL.out]; exact h0)⟩
      have hx2 := sortS_first hx1
      rw [HX.out] at hx2
      subst hx2
      have H0 := hid hx1
      clear hx1
      obtain ⟨gl, ol, rfl, f0, f1, f2, f3⟩ := st_cells L16.out HSL.out (Kept.refl _ _) H0.out
      have M16 := hid (And.intro f0 (And.intro f1 (And.intro f2 f3)))
      clear f0 f1 f2 f3
      have s1 := And.intro M16.out (And.intro (cells4' XB16.out) (And.intro (cells4' ZB16.out) (cells4' WB16.out)))
      simp only [Nat.zero_mul, Nat.add_zero] at s1
      go_region_held3 (fun w' => (w'.cell? ⟨gl, ol, none⟩ = some (.int .u64 z1) ∧ w'.cell? ⟨gl, ol + 1, none⟩ = some (.int .u8 z2) ∧ w'.cell? ⟨gl, ol + 2, none⟩ = some (.int .u32 z3) ∧ w'.cell? ⟨gl, ol + 3, none⟩ = some (.int .u32 z4)) ∧ (w'.cell? ⟨xb, 0, none⟩ = some (.int .u64 z1) ∧ w'.cell? ⟨xb, 1, none⟩ = some (.int .u8 z2) ∧ w'.cell? ⟨xb, 2, none⟩ = some (.int .u32 z3) ∧ w'.cell? ⟨xb, 3, none⟩ = some (.int .u32 z4)) ∧ (w'.cell? ⟨zb, 0, none⟩ = some (.int .u64 z1) ∧ w'.cell? ⟨zb, 1, none⟩ = some (.int .u8 z2) ∧ w'.cell? ⟨zb, 2, none⟩ = some (.int .u32 z3) ∧ w'.cell? ⟨zb, 3, none⟩ = some (.int .u32 z4)) ∧ w'.cell? ⟨wb, 0, none⟩ = some (.int .u64 z1) ∧ w'.cell? ⟨wb, 1, none⟩ = some (.int .u8 z2) ∧ w'.cell? ⟨wb, 2, none⟩ = some (.int .u32 z3) ∧ w'.cell? ⟨wb, 3, none⟩ = some (.int .u32 z4)) (first | exact s1 | exact s2 | exact s3 | exact s4 | exact s5)
        (first
          | (go_at_call 17; refine (ssort_any L16.out HSL.out (by omega)).mono ?_; rintro e w17 ⟨p9, q9, rfl, hs, hk⟩; rw [sortS_sortS] at hs; have L17 := hid hs.lies; have M17 := hid (L16.out.same hk); have KB17 := hid hk; have s2 := keep4 hk s1; clear hs hk)
          | (go_at_call 21; refine (back_any L17.out HSL.out (by omega)).mono ?_; rintro e w18 ⟨p10, q10, rfl, ho, hk⟩; have L18 := hid (ho.lies (F := fun _ => False) (encS_one _) (fun _ _ => id)); have M18 := hid (M17.out.same hk); have KB18 := hid (KB17.out.trans hk); have s3 := keep4 hk s2; clear ho hk L17)
          | (go_at_call 21; refine (back_any M18.out HSL.out (by omega)).mono ?_; rintro e w19 ⟨p11, q11, rfl, ho, hk⟩; have L19 := hid (ho.lies (F := fun _ => False) (encS_one _) (fun _ _ => id)); have M19 := hid (L18.out.same hk); have KB19 := hid (KB18.out.trans hk); have s4 := keep4 hk s3; clear ho hk)
          | (go_at_call 20; refine (same_yes M19.out L19.out HSL.out (by omega)).mono ?_; rintro e w20 ⟨rfl, hk⟩; have KB20 := hid (KB19.out.trans hk); have s5 := keep4 hk s4; clear hk))
      go_wp2
      go_ret
      exact ⟨rfl, (K16.out.trans KB20.out).below (Nat.le_refl _) (fun _ h => h.elim)⟩
  | true =>
    cases bA with
    | false =>
      have hzx : z1 = y1 ∧ z2 = y2 ∧ z3 = y3 ∧ z4 = y4 ∧ bC = true := by
        have h := HLAW.out
        simp only [true_and, true_or, if_true, Prod.mk.injEq] at h
        exact ⟨h.1.1, h.1.2.1, h.1.2.2.1, h.1.2.2.2, h.2⟩
      clear HLAW
      obtain ⟨e1, e2, e3, e4, e5⟩ := hzx
      subst e1 e2 e3 e4 e5
      go_wp2_with fail
      clear s1 s2 s3 hx0 hy0
      obtain ⟨zb, hzb⟩ : ∃ zb, w13.heap.size = zb := ⟨_, rfl⟩
      obtain ⟨wb, hwb⟩ : ∃ wb, wb = zb + 1 := ⟨_, rfl⟩
      have htw := two_new w13 (.cells #[.int .u64 z1, .int .u8 z2, .int .u32 z3, .int .u32 z4] 48) (.cells #[.int .u64 z1, .int .u8 z2, .int .u32 z3, .int .u32 z4] 48)
      have hk14 := ((Kept.refl (fun _ => False) w13).alloc (.cells #[.int .u64 z1, .int .u8 z2, .int .u32 z3, .int .u32 z4] 48)).alloc (.cells #[.int .u64 z1, .int .u8 z2, .int .u32 z3, .int .u32 z4] 48)
      obtain ⟨w14, hw14⟩ : ∃ w14, (w13.alloc (.cells #[.int .u64 z1, .int .u8 z2, .int .u32 z3, .int .u32 z4] 48)).alloc (.cells #[.int .u64 z1, .int .u8 z2, .int .u32 z3, .int .u32 z4] 48) = w14 := ⟨_, rfl⟩
      rw [hw14] at htw hk14 ⊢
      rw [hzb] at htw ⊢
      rw [← hwb] at htw ⊢
      have ZB14 := hid htw.1; have WB14 := hid htw.2
      have XB14 := hid ((hk14.block xb (row_lt XB13.out) id).trans XB13.out); have K14 := hid (K13.out.trans hk14); have HA14 := hid (HA13.out.same hk14)
      clear htw hk14 hw14 hzb hwb HA13 K13 XB13 YB13
      refine (stamps_lies HA14.out HAL.out (by omega)).mono ?_
      rintro e w15 ⟨p7, q7, rfl, hl, hk⟩
      have L15 := hid hl; have K15 := hid (K14.out.trans hk); have XB15 := hid ((hk.block xb (row_lt XB14.out) id).trans XB14.out); have ZB15 := hid ((hk.block zb (row_lt ZB14.out) id).trans ZB14.out); have WB15 := hid ((hk.block wb (row_lt WB14.out) id).trans WB14.out)
      clear hl hk K14 XB14 ZB14 WB14 HA14
      go_wp2_with fail
      refine (ssort_any L15.out HAL.out (by omega)).mono ?_
      rintro e w16 ⟨p8, q8, rfl, hs, hk⟩
      have hk1 := hk.trans (Kept.refl (fun _ => False) w16).drew
      have L16 := hid (hs.lies.same (Kept.refl (fun _ => False) w16).drew); have HSL := hid hs.1; have K16 := hid (K15.out.trans hk1); have XB16 := hid ((hk1.block xb (row_lt XB15.out) id).trans XB15.out); have ZB16 := hid ((hk1.block zb (row_lt ZB15.out) id).trans ZB15.out); have WB16 := hid ((hk1.block wb (row_lt WB15.out) id).trans WB15.out)
      clear hs hk hk1 K15 XB15 ZB15 WB15 L15
      have hc16 := lies_cap L16.out
      unfold maxLen at hc16
      obtain ⟨hc1, hc2⟩ := hc16
      go_wp2_with fail
      rcases Nat.eq_zero_or_pos NA with h0 | h0
      · have hd : ((NA : Int) == 0) = true := by rw [h0]; rfl
        clear h0
        have z1' := cells4' ZB16.out
        have w1' := cells4' WB16.out
        have s1 := And.intro z1' w1'
        clear z1' w1'
        refine wp_region_held_drew (S := fun w' => (w'.cell? ⟨zb, 0, none⟩ = some (.int .u64 z1) ∧ w'.cell? ⟨zb, 1, none⟩ = some (.int .u8 z2) ∧ w'.cell? ⟨zb, 2, none⟩ = some (.int .u32 z3) ∧ w'.cell? ⟨zb, 3, none⟩ = some (.int .u32 z4)) ∧ w'.cell? ⟨wb, 0, none⟩ = some (.int .u64 z1) ∧ w'.cell? ⟨wb, 1, none⟩ = some (.int .u8 z2) ∧ w'.cell? ⟨wb, 2, none⟩ = some (.int .u32 z3) ∧ w'.cell? ⟨wb, 3, none⟩ = some (.int .u32 z4)) (by kernel_rfl) (by exact s1) (fun hHeld => ?_)
        refine wpAnyH_at 0 (some 66) (v := ?v7200) (by decide) rfl (by kernel_rfl) (by kernel_rfl) (by kernel_rfl) (fun _ _ _ h => h) (Or.inl ⟨by rfl, ?y7200⟩) (by assumption) ?r7200
        case y7200 => (intro w hSw; (try dsimp only at hSw); go_simp; (try with_reducible rfl))
        simp only [Act.put, List.setIfInBounds_toArray, List.set_cons_zero, List.set_cons_succ]
        refine wpAnyH_at 1 (some 67) (v := ?v7201) (by decide) rfl (by kernel_rfl) (by kernel_rfl) (by kernel_rfl) (fun _ _ _ h => h) (Or.inl ⟨by rfl, ?y7201⟩) (by assumption) ?r7201
        case y7201 => (intro w hSw; (try dsimp only at hSw); go_simp; (try with_reducible rfl))
        simp only [Act.put, List.setIfInBounds_toArray, List.set_cons_zero, List.set_cons_succ]
        refine wpAnyH_at 2 (some 68) (v := ?v7202) (by decide) rfl (by kernel_rfl) (by kernel_rfl) (by kernel_rfl) (fun _ _ _ h => h) (Or.inl ⟨by rfl, ?y7202⟩) (by assumption) ?r7202
        case y7202 => (intro w hSw; (try dsimp only at hSw); go_simp; (try with_reducible rfl))
        simp only [Act.put, List.setIfInBounds_toArray, List.set_cons_zero, List.set_cons_succ]
        refine wpAnyH_at 3 (some 69) (v := ?v7203) (by decide) rfl (by kernel_rfl) (by kernel_rfl) (by kernel_rfl) (fun _ _ _ h => h) (Or.inl ⟨by rfl, ?y7203⟩) (by assumption) ?r7203
        case y7203 => (intro w hSw; (try dsimp only at hSw); go_simp; (try with_reducible rfl))
        simp only [Act.put, List.setIfInBounds_toArray, List.set_cons_zero, List.set_cons_succ]
        refine wpAnyH_at 4 (some 70) (v := ?v7204) (by decide) rfl (by kernel_rfl) (by kernel_rfl) (by kernel_rfl) (fun _ _ _ h => h) (Or.inl ⟨by rfl, ?y7204⟩) (by assumption) ?r7204
        case y7204 => (intro w hSw; (try dsimp only at hSw); go_simp; (try with_reducible rfl))
        simp only [Act.put, List.setIfInBounds_toArray, List.set_cons_zero, List.set_cons_succ]
        refine wpAnyH_at 5 (some 71) (v := ?v7205) (by decide) rfl (by kernel_rfl) (by kernel_rfl) (by kernel_rfl) (fun _ _ _ h => h) (Or.inl ⟨by rfl, ?y7205⟩) (by assumption) ?r7205
        case y7205 => (intro w hSw; (try dsimp only at hSw); go_simp; (try with_reducible rfl))
        simp only [Act.put, List.setIfInBounds_toArray, List.set_cons_zero, List.set_cons_succ]
        refine wpAnyH_at 6 (some 72) (v := ?v7206) (by decide) rfl (by kernel_rfl) (by kernel_rfl) (by kernel_rfl) (fun _ _ _ h => h) (Or.inl ⟨by rfl, ?y7206⟩) (by assumption) ?r7206
        case y7206 => (intro w hSw; (try dsimp only at hSw); go_simp; (try with_reducible rfl))
        simp only [Act.put, List.setIfInBounds_toArray, List.set_cons_zero, List.set_cons_succ]
        refine wpAnyH_at 7 (some 73) (v := ?v7207) (by decide) rfl (by kernel_rfl) (by kernel_rfl) (by kernel_rfl) (fun _ _ _ h => h) (Or.inl ⟨by rfl, ?y7207⟩) (by assumption) ?r7207
        case y7207 => (intro w hSw; (try dsimp only at hSw); go_simp; (try with_reducible rfl))
        simp only [Act.put, List.setIfInBounds_toArray, List.set_cons_zero, List.set_cons_succ]
        refine wpAnyH_at 8 (some 74) (v := ?v7208) (by decide) rfl (by kernel_rfl) (by kernel_rfl) (by kernel_rfl) (fun _ _ _ h => h) (Or.inl ⟨by rfl, ?y7208⟩) (by assumption) ?r7208
        case y7208 => (intro w hSw; (try dsimp only at hSw); go_simp; (try with_reducible rfl))
        simp only [Act.put, List.setIfInBounds_toArray, List.set_cons_zero, List.set_cons_succ]
        refine wpAnyH_at 9 (some 75) (v := ?v7209) (by decide) rfl (by kernel_rfl) (by kernel_rfl) (by kernel_rfl) (fun _ _ _ h => h) (Or.inl ⟨by rfl, ?y7209⟩) (by assumption) ?r7209
        case y7209 => (intro w hSw; (try dsimp only at hSw); go_simp; (try with_reducible rfl))
        simp only [Act.put, List.setIfInBounds_toArray, List.set_cons_zero, List.set_cons_succ]
        refine wpAnyH_at 12 (some 78) (v := ?v7212) (by decide) rfl (by kernel_rfl) (by kernel_rfl) (by kernel_rfl) (fun _ _ _ h => h) (Or.inl ⟨by rfl, ?y7212⟩) (by assumption) ?r7212
        case y7212 => (intro w hSw; (try dsimp only at hSw); go_simp; (try with_reducible rfl))
        simp only [Act.put, List.setIfInBounds_toArray, List.set_cons_zero, List.set_cons_succ]
        refine wpAnyH_ready (rs := [10]) (by kernel_rfl) (by simp) ?_
        refine AllReadyH.cons rfl (fun K hK => ?_) AllReadyH.nil
        go_simp
        refine (ssort_any L16.out HSL.out (by omega)).mono ?_
        rintro e w17 ⟨p9, q9, rfl, hs, hk⟩
        rw [sortS_sortS] at hs
        have L17 := hid hs.lies; have M17 := hid (L16.out.same hk); have KB17 := hid hk
        clear hs hk s1
        try dsimp only []
        refine hK.out _ _ (by exact And.intro (cells4' ((KB17.out.block zb (row_lt ZB16.out) id).trans ZB16.out)) (cells4' ((KB17.out.block wb (row_lt WB16.out) id).trans WB16.out))) (fun hHeld => ?_)
        clear hK K
        try simp only [Act.put, List.setIfInBounds_toArray, List.set_cons_zero, List.set_cons_succ]
        refine wpAnyH_ready (rs := [11]) (by kernel_rfl) (by simp) ?_
        refine AllReadyH.cons rfl (fun K hK => ?_) AllReadyH.nil
        go_simp
        refine (back_any L17.out HSL.out (by omega)).mono ?_
        rintro e w18 ⟨p10, q10, rfl, ho, hk⟩
        have L18 := hid (ho.lies (F := fun _ => False) (encS_one _) (fun _ _ => id)); have M18 := hid (M17.out.same hk); have KB18 := hid (KB17.out.trans hk)
        clear ho hk L17
        try dsimp only []
        refine hK.out _ _ (by exact And.intro (cells4' ((KB18.out.block zb (row_lt ZB16.out) id).trans ZB16.out)) (cells4' ((KB18.out.block wb (row_lt WB16.out) id).trans WB16.out))) (fun hHeld => ?_)
        clear hK K
        try simp only [Act.put, List.setIfInBounds_toArray, List.set_cons_zero, List.set_cons_succ]
        refine wpAnyH_ready (rs := [13]) (by kernel_rfl) (by simp) ?_
        refine AllReadyH.cons rfl (fun K hK => ?_) AllReadyH.nil
        go_simp
        refine (back_any M18.out HSL.out (by omega)).mono ?_
        rintro e w19 ⟨p11, q11, rfl, ho, hk⟩
        have L19 := hid (ho.lies (F := fun _ => False) (encS_one _) (fun _ _ => id)); have M19 := hid (L18.out.same hk); have KB19 := hid (KB18.out.trans hk)
        clear ho hk
        try dsimp only []
        refine hK.out _ _ (by exact And.intro (cells4' ((KB19.out.block zb (row_lt ZB16.out) id).trans ZB16.out)) (cells4' ((KB19.out.block wb (row_lt WB16.out) id).trans WB16.out))) (fun hHeld => ?_)
        clear hK K
        try simp only [Act.put, List.setIfInBounds_toArray, List.set_cons_zero, List.set_cons_succ]
        refine wpAnyH_ready (rs := [14]) (by kernel_rfl) (by simp) ?_
        refine AllReadyH.cons rfl (fun K hK => ?_) AllReadyH.nil
        go_simp
        refine (same_yes M19.out L19.out HSL.out (by omega)).mono ?_
        rintro e w20 ⟨rfl, hk⟩
        have KB20 := hid (KB19.out.trans hk)
        clear hk
        try dsimp only []
        refine hK.out _ _ (by exact And.intro (cells4' ((KB20.out.block zb (row_lt ZB16.out) id).trans ZB16.out)) (cells4' ((KB20.out.block wb (row_lt WB16.out) id).trans WB16.out))) (fun hHeld => ?_)
        clear hK K
        try simp only [Act.put, List.setIfInBounds_toArray, List.set_cons_zero, List.set_cons_succ]
        refine wpAnyH_at 15 (some 81) (v := ?v7215) (by decide) rfl (by kernel_rfl) (by kernel_rfl) (by kernel_rfl) (fun _ _ _ h => h) (Or.inl ⟨by rfl, ?y7215⟩) (by assumption) ?r7215
        case y7215 => (intro w hSw; (try dsimp only at hSw); go_simp; (try with_reducible rfl))
        simp only [Act.put, List.setIfInBounds_toArray, List.set_cons_zero, List.set_cons_succ]
        refine wpAnyH_at 16 (some 82) (v := ?v7216) (by decide) rfl (by kernel_rfl) (by kernel_rfl) (by kernel_rfl) (fun _ _ _ h => h) (Or.inl ⟨by rfl, ?y7216⟩) (by assumption) ?r7216
        case y7216 => (intro w hSw; (try dsimp only at hSw); go_simp; (try with_reducible rfl))
        simp only [Act.put, List.setIfInBounds_toArray, List.set_cons_zero, List.set_cons_succ]
        refine wpAnyH_at 17 (some 83) (v := ?v7217) (by decide) rfl (by kernel_rfl) (by kernel_rfl) (by kernel_rfl) (fun _ _ _ h => h) (Or.inl ⟨by rfl, ?y7217⟩) (by assumption) ?r7217
        case y7217 => (intro w hSw; (try dsimp only at hSw); go_simp; (try with_reducible rfl))
        simp only [Act.put, List.setIfInBounds_toArray, List.set_cons_zero, List.set_cons_succ]
        refine wpAnyH_at 18 (some 84) (v := ?v7218) (by decide) rfl (by kernel_rfl) (by kernel_rfl) (by kernel_rfl) (fun _ _ _ h => h) (Or.inl ⟨by rfl, ?y7218⟩) (by assumption) ?r7218
        case y7218 => (intro w hSw; (try dsimp only at hSw); go_simp; (try with_reducible rfl))
        simp only [Act.put, List.setIfInBounds_toArray, List.set_cons_zero, List.set_cons_succ]
        refine wpAnyH_at 19 (some 85) (v := ?v7219) (by decide) rfl (by kernel_rfl) (by kernel_rfl) (by kernel_rfl) (fun _ _ _ h => h) (Or.inl ⟨by rfl, ?y7219⟩) (by assumption) ?r7219
        case y7219 => (intro w hSw; (try dsimp only at hSw); go_simp; (try with_reducible rfl))
        simp only [Act.put, List.setIfInBounds_toArray, List.set_cons_zero, List.set_cons_succ]
        refine wpAnyH_at 20 (some 86) (v := ?v7220) (by decide) rfl (by kernel_rfl) (by kernel_rfl) (by kernel_rfl) (fun _ _ _ h => h) (Or.inl ⟨by rfl, ?y7220⟩) (by assumption) ?r7220
        case y7220 => (intro w hSw; (try dsimp only at hSw); go_simp; (try with_reducible rfl))
        simp only [Act.put, List.setIfInBounds_toArray, List.set_cons_zero, List.set_cons_succ]
        refine wpAnyH_at 21 (some 87) (v := undef) (by decide) rfl (by kernel_rfl) (by kernel_rfl) (by kernel_rfl) (fun _ _ _ h => h) (Or.inr ⟨by rfl, rfl⟩) (by assumption) ?_
        simp only [Act.put, List.setIfInBounds_toArray, List.set_cons_zero, List.set_cons_succ]
        refine wpAnyH_at 22 (some 88) (v := undef) (by decide) rfl (by kernel_rfl) (by kernel_rfl) (by kernel_rfl) (fun _ _ _ h => h) (Or.inr ⟨by rfl, rfl⟩) (by assumption) ?_
        simp only [Act.put, List.setIfInBounds_toArray, List.set_cons_zero, List.set_cons_succ]
        refine wpAnyH_at 23 (some 89) (v := undef) (by decide) rfl (by kernel_rfl) (by kernel_rfl) (by kernel_rfl) (fun _ _ _ h => h) (Or.inr ⟨by rfl, rfl⟩) (by assumption) ?_
        simp only [Act.put, List.setIfInBounds_toArray, List.set_cons_zero, List.set_cons_succ]
        refine wpAnyH_at 24 (some 90) (v := undef) (by decide) rfl (by kernel_rfl) (by kernel_rfl) (by kernel_rfl) (fun _ _ _ h => h) (Or.inr ⟨by rfl, rfl⟩) (by assumption) ?_
        simp only [Act.put, List.setIfInBounds_toArray, List.set_cons_zero, List.set_cons_succ]
        refine wpAnyH_at 25 (some 91) (v := undef) (by decide) rfl (by kernel_rfl) (by kernel_rfl) (by kernel_rfl) (fun _ _ _ h => h) (Or.inr ⟨by rfl, rfl⟩) (by assumption) ?_
        simp only [Act.put, List.setIfInBounds_toArray, List.set_cons_zero, List.set_cons_succ]
        refine wpAnyH_at 26 (some 92) (v := ?v7226) (by decide) rfl (by kernel_rfl) (by kernel_rfl) (by kernel_rfl) (fun _ _ _ h => h) (Or.inl ⟨by rfl, ?y7226⟩) (by assumption) ?r7226
        case y7226 => (intro w hSw; (try dsimp only at hSw); go_simp; (try with_reducible rfl))
        simp only [Act.put, List.setIfInBounds_toArray, List.set_cons_zero, List.set_cons_succ]
        refine wpAnyH_at 27 (some 93) (v := ?v7227) (by decide) rfl (by kernel_rfl) (by kernel_rfl) (by kernel_rfl) (fun _ _ _ h => h) (Or.inl ⟨by rfl, ?y7227⟩) (by assumption) ?r7227
        case y7227 => (intro w hSw; (try dsimp only at hSw); go_simp; (try with_reducible rfl))
        simp only [Act.put, List.setIfInBounds_toArray, List.set_cons_zero, List.set_cons_succ]
        refine wpAnyH_at 28 (some 4) (v := ?v7228) (by decide) rfl (by kernel_rfl) (by kernel_rfl) (by kernel_rfl) (fun _ _ _ h => h) (Or.inl ⟨by rfl, ?y7228⟩) (by assumption) ?r7228
        case y7228 => (intro w hSw; (try dsimp only at hSw); go_simp; (try with_reducible rfl))
        simp only [Act.put, List.setIfInBounds_toArray, List.set_cons_zero, List.set_cons_succ]
        refine wpAnyH_done (by kernel_rfl) ?_ _
        go_wp2
        go_ret
        exact ⟨rfl, (K16.out.trans KB20.out).below (Nat.le_refl _) (fun _ h => h.elim)⟩
      · have hd : ((NA : Int) == 0) = false := by rw [beq_eq_false_iff_ne]; omega
        have hpos : (0 : Int) < (NA : Int) := by omega
        obtain ⟨xx, hx1⟩ : ∃ xx, (sortS A)[0]? = some xx := ⟨_, List.getElem?_eq_getElem (by rw [HSL.out]; exact h0)⟩
        have hx2 := sortS_first hx1
        rw [HX.out] at hx2
        subst hx2
        have H0 := hid hx1
        clear hx1
        obtain ⟨gl, ol, rfl, f0, f1, f2, f3⟩ := st_cells L16.out HSL.out (Kept.refl _ _) H0.out
        have M16 := hid (And.intro f0 (And.intro f1 (And.intro f2 f3)))
        clear f0 f1 f2 f3
        have s1 := And.intro M16.out (And.intro (cells4' XB16.out) (And.intro (cells4' ZB16.out) (cells4' WB16.out)))
        simp only [Nat.zero_mul, Nat.add_zero] at s1
        go_region_held3 (fun w' => (w'.cell? ⟨gl, ol, none⟩ = some (.int .u64 x1) ∧ w'.cell? ⟨gl, ol + 1, none⟩ = some (.int .u8 x2) ∧ w'.cell? ⟨gl, ol + 2, none⟩ = some (.int .u32 x3) ∧ w'.cell? ⟨gl, ol + 3, none⟩ = some (.int .u32 x4)) ∧ (w'.cell? ⟨xb, 0, none⟩ = some (.int .u64 x1) ∧ w'.cell? ⟨xb, 1, none⟩ = some (.int .u8 x2) ∧ w'.cell? ⟨xb, 2, none⟩ = some (.int .u32 x3) ∧ w'.cell? ⟨xb, 3, none⟩ = some (.int .u32 x4)) ∧ (w'.cell? ⟨zb, 0, none⟩ = some (.int .u64 z1) ∧ w'.cell? ⟨zb, 1, none⟩ = some (.int .u8 z2) ∧ w'.cell? ⟨zb, 2, none⟩ = some (.int .u32 z3) ∧ w'.cell? ⟨zb, 3, none⟩ = some (.int .u32 z4)) ∧ w'.cell? ⟨wb, 0, none⟩ = some (.int .u64 z1) ∧ w'.cell? ⟨wb, 1, none⟩ = some (.int .u8 z2) ∧ w'.cell? ⟨wb, 2, none⟩ = some (.int .u32 z3) ∧ w'.cell? ⟨wb, 3, none⟩ = some (.int .u32 z4)) (first | exact s1 | exact s2 | exact s3 | exact s4 | exact s5)
          (first
            | (go_at_call 17; refine (ssort_any L16.out HSL.out (by omega)).mono ?_; rintro e w17 ⟨p9, q9, rfl, hs, hk⟩; rw [sortS_sortS] at hs; have L17 := hid hs.lies; have M17 := hid (L16.out.same hk); have KB17 := hid hk; have s2 := keep4 hk s1; clear hs hk)
            | (go_at_call 21; refine (back_any L17.out HSL.out (by omega)).mono ?_; rintro e w18 ⟨p10, q10, rfl, ho, hk⟩; have L18 := hid (ho.lies (F := fun _ => False) (encS_one _) (fun _ _ => id)); have M18 := hid (M17.out.same hk); have KB18 := hid (KB17.out.trans hk); have s3 := keep4 hk s2; clear ho hk L17)
            | (go_at_call 21; refine (back_any M18.out HSL.out (by omega)).mono ?_; rintro e w19 ⟨p11, q11, rfl, ho, hk⟩; have L19 := hid (ho.lies (F := fun _ => False) (encS_one _) (fun _ _ => id)); have M19 := hid (L18.out.same hk); have KB19 := hid (KB18.out.trans hk); have s4 := keep4 hk s3; clear ho hk)
            | (go_at_call 20; refine (same_yes M19.out L19.out HSL.out (by omega)).mono ?_; rintro e w20 ⟨rfl, hk⟩; have KB20 := hid (KB19.out.trans hk); have s5 := keep4 hk s4; clear hk))
        go_wp2
        go_ret
        exact ⟨rfl, (K16.out.trans KB20.out).below (Nat.le_refl _) (fun _ h => h.elim)⟩
    | true =>
      go_wp2_with fail
      obtain ⟨zb, hzb⟩ : ∃ zb, w13.heap.size = zb := ⟨_, rfl⟩
      obtain ⟨wb, hwb⟩ : ∃ wb, wb = zb + 1 := ⟨_, rfl⟩
      have htw := two_new w13 (.cells #[.int .u64 z1, .int .u8 z2, .int .u32 z3, .int .u32 z4] 48) (.cells #[.int .u64 x1, .int .u8 x2, .int .u32 x3, .int .u32 x4] 48)
      have hk14 := ((Kept.refl (fun _ => False) w13).alloc (.cells #[.int .u64 z1, .int .u8 z2, .int .u32 z3, .int .u32 z4] 48)).alloc (.cells #[.int .u64 x1, .int .u8 x2, .int .u32 x3, .int .u32 x4] 48)
      obtain ⟨w14, hw14⟩ : ∃ w14, (w13.alloc (.cells #[.int .u64 z1, .int .u8 z2, .int .u32 z3, .int .u32 z4] 48)).alloc (.cells #[.int .u64 x1, .int .u8 x2, .int .u32 x3, .int .u32 x4] 48) = w14 := ⟨_, rfl⟩
      rw [hw14] at htw hk14 ⊢
      rw [hzb] at htw ⊢
      rw [← hwb] at htw ⊢
      have ZBa := hid htw.1; have WBa := hid htw.2
      have XBa := hid ((hk14.block xb (row_lt XB13.out) id).trans XB13.out); have YBa := hid ((hk14.block yb (row_lt YB13.out) id).trans YB13.out); have Ka := hid (K13.out.trans hk14); have HAa := hid (HA13.out.same hk14)
      have HWZ := hid (show W.heap.size ≤ wb by have := K13.out.size; omega)
      have HWN := hid (show zb ≠ wb ∧ xb ≠ wb by have := row_lt XB13.out; omega)
      clear s1 s2 s3 hx0 hy0 htw hk14 hw14 hzb hwb HA13 K13 XB13 YB13
      refine (order_grow (y1, y2, y3, y4) (x1, x2, x3, x4) _).mono ?_
      rintro e w15 ⟨rfl, q, os', hw15⟩
      have hk : Kept (fun _ => False) w14 w15 := by rw [hw15]; exact kept_grow _ _ _
      have ZB15 := hid ((hk.block zb (row_lt ZBa.out) id).trans ZBa.out); have WB15 := hid ((hk.block wb (row_lt WBa.out) id).trans WBa.out); have XB15 := hid ((hk.block xb (row_lt XBa.out) id).trans XBa.out); have YB15 := hid ((hk.block yb (row_lt YBa.out) id).trans YBa.out); have K15 := hid (Ka.out.trans hk); have HA15 := hid (HAa.out.same hk)
      clear hk hw15 ZBa WBa XBa YBa Ka HAa
      by_cases he : eldS (y1, y2, y3, y4) (x1, x2, x3, x4)
      · have hzx : z1 = y1 ∧ z2 = y2 ∧ z3 = y3 ∧ z4 = y4 ∧ bC = true := by
          have h := HLAW.out
          simp only [true_and, he, or_true, if_true, Prod.mk.injEq] at h
          exact ⟨h.1.1, h.1.2.1, h.1.2.2.1, h.1.2.2.2, h.2⟩
        obtain ⟨c, hc⟩ : ∃ c, ordS (y1, y2, y3, y4) (x1, x2, x3, x4) = c := ⟨_, rfl⟩
        have hcn : c < 0 := by rw [← hc]; exact ordS_neg.2 he
        rw [hc]
        clear HLAW he hc
        obtain ⟨e1, e2, e3, e4, e5⟩ := hzx
        subst e1 e2 e3 e4 e5
        obtain ⟨hy0, hy1, hy2, hy3⟩ := cells4' YB15.out
        obtain ⟨hc0, hc1, hc2, hc3⟩ := cells4' WB15.out
        obtain ⟨hf0, hf1, hf2, hf3⟩ := four_free WB15.out
        go_wp2_with fail
        obtain ⟨w16, hw16, hWB16, hk16⟩ := four_set WB15.out (.int .u64 z1) (.int .u8 z2) (.int .u32 z3) (.int .u32 z4)
        rw [hw16]
        have ZB14 := hid ((hk16.block zb (row_lt ZB15.out) HWN.out.1).trans ZB15.out); have WB14 := hid hWB16; have XB14 := hid ((hk16.block xb (row_lt XB15.out) HWN.out.2).trans XB15.out); have K14 := hid (K15.out.trans' hk16 (fun i h => .inr (by rw [h]; exact HWZ.out)))
        have HA14 := hid (HA15.out.kept hk16 (fun g _ h => by rw [h]; exact HWZ.out))
        clear hy0 hy1 hy2 hy3 hc0 hc1 hc2 hc3 hf0 hf1 hf2 hf3 hw16 hWB16 hk16 ZB15 WB15 XB15 YB15 K15 HA15 hcn
        refine (stamps_lies HA14.out HAL.out (by omega)).mono ?_
        rintro e w15 ⟨p7, q7, rfl, hl, hk⟩
        have L15 := hid hl; have K15 := hid (K14.out.trans hk); have XB15 := hid ((hk.block xb (row_lt XB14.out) id).trans XB14.out); have ZB15 := hid ((hk.block zb (row_lt ZB14.out) id).trans ZB14.out); have WB15 := hid ((hk.block wb (row_lt WB14.out) id).trans WB14.out)
        clear hl hk K14 XB14 ZB14 WB14 HA14
        go_wp2_with fail
        refine (ssort_any L15.out HAL.out (by omega)).mono ?_
        rintro e w16 ⟨p8, q8, rfl, hs, hk⟩
        have hk1 := hk.trans (Kept.refl (fun _ => False) w16).drew
        have L16 := hid (hs.lies.same (Kept.refl (fun _ => False) w16).drew); have HSL := hid hs.1; have K16 := hid (K15.out.trans hk1); have XB16 := hid ((hk1.block xb (row_lt XB15.out) id).trans XB15.out); have ZB16 := hid ((hk1.block zb (row_lt ZB15.out) id).trans ZB15.out); have WB16 := hid ((hk1.block wb (row_lt WB15.out) id).trans WB15.out)
        clear hs hk hk1 K15 XB15 ZB15 WB15 L15
        have hc16 := lies_cap L16.out
        unfold maxLen at hc16
        obtain ⟨hc1, hc2⟩ := hc16
        go_wp2_with fail
        rcases Nat.eq_zero_or_pos NA with h0 | h0
        · have hd : ((NA : Int) == 0) = true := by rw [h0]; rfl
          clear h0
          have z1' := cells4' ZB16.out
          have w1' := cells4' WB16.out
          have s1 := And.intro z1' w1'
          clear z1' w1'
          refine wp_region_held_drew (S := fun w' => (w'.cell? ⟨zb, 0, none⟩ = some (.int .u64 z1) ∧ w'.cell? ⟨zb, 1, none⟩ = some (.int .u8 z2) ∧ w'.cell? ⟨zb, 2, none⟩ = some (.int .u32 z3) ∧ w'.cell? ⟨zb, 3, none⟩ = some (.int .u32 z4)) ∧ w'.cell? ⟨wb, 0, none⟩ = some (.int .u64 z1) ∧ w'.cell? ⟨wb, 1, none⟩ = some (.int .u8 z2) ∧ w'.cell? ⟨wb, 2, none⟩ = some (.int .u32 z3) ∧ w'.cell? ⟨wb, 3, none⟩ = some (.int .u32 z4)) (by kernel_rfl) (by exact s1) (fun hHeld => ?_)
          refine wpAnyH_at 0 (some 66) (v := ?v7300) (by decide) rfl (by kernel_rfl) (by kernel_rfl) (by kernel_rfl) (fun _ _ _ h => h) (Or.inl ⟨by rfl, ?y7300⟩) (by assumption) ?r7300
          case y7300 => (intro w hSw; (try dsimp only at hSw); go_simp; (try with_reducible rfl))
          simp only [Act.put, List.setIfInBounds_toArray, List.set_cons_zero, List.set_cons_succ]
          refine wpAnyH_at 1 (some 67) (v := ?v7301) (by decide) rfl (by kernel_rfl) (by kernel_rfl) (by kernel_rfl) (fun _ _ _ h => h) (Or.inl ⟨by rfl, ?y7301⟩) (by assumption) ?r7301
          case y7301 => (intro w hSw; (try dsimp only at hSw); go_simp; (try with_reducible rfl))
          simp only [Act.put, List.setIfInBounds_toArray, List.set_cons_zero, List.set_cons_succ]
          refine wpAnyH_at 2 (some 68) (v := ?v7302) (by decide) rfl (by kernel_rfl) (by kernel_rfl) (by kernel_rfl) (fun _ _ _ h => h) (Or.inl ⟨by rfl, ?y7302⟩) (by assumption) ?r7302
          case y7302 => (intro w hSw; (try dsimp only at hSw); go_simp; (try with_reducible rfl))
          simp only [Act.put, List.setIfInBounds_toArray, List.set_cons_zero, List.set_cons_succ]
          refine wpAnyH_at 3 (some 69) (v := ?v7303) (by decide) rfl (by kernel_rfl) (by kernel_rfl) (by kernel_rfl) (fun _ _ _ h => h) (Or.inl ⟨by rfl, ?y7303⟩) (by assumption) ?r7303
          case y7303 => (intro w hSw; (try dsimp only at hSw); go_simp; (try with_reducible rfl))
          simp only [Act.put, List.setIfInBounds_toArray, List.set_cons_zero, List.set_cons_succ]
          refine wpAnyH_at 4 (some 70) (v := ?v7304) (by decide) rfl (by kernel_rfl) (by kernel_rfl) (by kernel_rfl) (fun _ _ _ h => h) (Or.inl ⟨by rfl, ?y7304⟩) (by assumption) ?r7304
          case y7304 => (intro w hSw; (try dsimp only at hSw); go_simp; (try with_reducible rfl))
          simp only [Act.put, List.setIfInBounds_toArray, List.set_cons_zero, List.set_cons_succ]
          refine wpAnyH_at 5 (some 71) (v := ?v7305) (by decide) rfl (by kernel_rfl) (by kernel_rfl) (by kernel_rfl) (fun _ _ _ h => h) (Or.inl ⟨by rfl, ?y7305⟩) (by assumption) ?r7305
          case y7305 => (intro w hSw; (try dsimp only at hSw); go_simp; (try with_reducible rfl))
          simp only [Act.put, List.setIfInBounds_toArray, List.set_cons_zero, List.set_cons_succ]
          refine wpAnyH_at 6 (some 72) (v := ?v7306) (by decide) rfl (by kernel_rfl) (by kernel_rfl) (by kernel_rfl) (fun _ _ _ h => h) (Or.inl ⟨by rfl, ?y7306⟩) (by assumption) ?r7306
          case y7306 => (intro w hSw; (try dsimp only at hSw); go_simp; (try with_reducible rfl))
          simp only [Act.put, List.setIfInBounds_toArray, List.set_cons_zero, List.set_cons_succ]
          refine wpAnyH_at 7 (some 73) (v := ?v7307) (by decide) rfl (by kernel_rfl) (by kernel_rfl) (by kernel_rfl) (fun _ _ _ h => h) (Or.inl ⟨by rfl, ?y7307⟩) (by assumption) ?r7307
          case y7307 => (intro w hSw; (try dsimp only at hSw); go_simp; (try with_reducible rfl))
          simp only [Act.put, List.setIfInBounds_toArray, List.set_cons_zero, List.set_cons_succ]
          refine wpAnyH_at 8 (some 74) (v := ?v7308) (by decide) rfl (by kernel_rfl) (by kernel_rfl) (by kernel_rfl) (fun _ _ _ h => h) (Or.inl ⟨by rfl, ?y7308⟩) (by assumption) ?r7308
          case y7308 => (intro w hSw; (try dsimp only at hSw); go_simp; (try with_reducible rfl))
          simp only [Act.put, List.setIfInBounds_toArray, List.set_cons_zero, List.set_cons_succ]
          refine wpAnyH_at 9 (some 75) (v := ?v7309) (by decide) rfl (by kernel_rfl) (by kernel_rfl) (by kernel_rfl) (fun _ _ _ h => h) (Or.inl ⟨by rfl, ?y7309⟩) (by assumption) ?r7309
          case y7309 => (intro w hSw; (try dsimp only at hSw); go_simp; (try with_reducible rfl))
          simp only [Act.put, List.setIfInBounds_toArray, List.set_cons_zero, List.set_cons_succ]
          refine wpAnyH_at 12 (some 78) (v := ?v7312) (by decide) rfl (by kernel_rfl) (by kernel_rfl) (by kernel_rfl) (fun _ _ _ h => h) (Or.inl ⟨by rfl, ?y7312⟩) (by assumption) ?r7312
          case y7312 => (intro w hSw; (try dsimp only at hSw); go_simp; (try with_reducible rfl))
          simp only [Act.put, List.setIfInBounds_toArray, List.set_cons_zero, List.set_cons_succ]
          refine wpAnyH_ready (rs := [10]) (by kernel_rfl) (by simp) ?_
          refine AllReadyH.cons rfl (fun K hK => ?_) AllReadyH.nil
          go_simp
          refine (ssort_any L16.out HSL.out (by omega)).mono ?_
          rintro e w17 ⟨p9, q9, rfl, hs, hk⟩
          rw [sortS_sortS] at hs
          have L17 := hid hs.lies; have M17 := hid (L16.out.same hk); have KB17 := hid hk
          clear hs hk s1
          try dsimp only []
          refine hK.out _ _ (by exact And.intro (cells4' ((KB17.out.block zb (row_lt ZB16.out) id).trans ZB16.out)) (cells4' ((KB17.out.block wb (row_lt WB16.out) id).trans WB16.out))) (fun hHeld => ?_)
          clear hK K
          try simp only [Act.put, List.setIfInBounds_toArray, List.set_cons_zero, List.set_cons_succ]
          refine wpAnyH_ready (rs := [11]) (by kernel_rfl) (by simp) ?_
          refine AllReadyH.cons rfl (fun K hK => ?_) AllReadyH.nil
          go_simp
          refine (back_any L17.out HSL.out (by omega)).mono ?_
          rintro e w18 ⟨p10, q10, rfl, ho, hk⟩
          have L18 := hid (ho.lies (F := fun _ => False) (encS_one _) (fun _ _ => id)); have M18 := hid (M17.out.same hk); have KB18 := hid (KB17.out.trans hk)
          clear ho hk L17
          try dsimp only []
          refine hK.out _ _ (by exact And.intro (cells4' ((KB18.out.block zb (row_lt ZB16.out) id).trans ZB16.out)) (cells4' ((KB18.out.block wb (row_lt WB16.out) id).trans WB16.out))) (fun hHeld => ?_)
          clear hK K
          try simp only [Act.put, List.setIfInBounds_toArray, List.set_cons_zero, List.set_cons_succ]
          refine wpAnyH_ready (rs := [13]) (by kernel_rfl) (by simp) ?_
          refine AllReadyH.cons rfl (fun K hK => ?_) AllReadyH.nil
          go_simp
          refine (back_any M18.out HSL.out (by omega)).mono ?_
          rintro e w19 ⟨p11, q11, rfl, ho, hk⟩
          have L19 := hid (ho.lies (F := fun _ => False) (encS_one _) (fun _ _ => id)); have M19 := hid (L18.out.same hk); have KB19 := hid (KB18.out.trans hk)
          clear ho hk
          try dsimp only []
          refine hK.out _ _ (by exact And.intro (cells4' ((KB19.out.block zb (row_lt ZB16.out) id).trans ZB16.out)) (cells4' ((KB19.out.block wb (row_lt WB16.out) id).trans WB16.out))) (fun hHeld => ?_)
          clear hK K
          try simp only [Act.put, List.setIfInBounds_toArray, List.set_cons_zero, List.set_cons_succ]
          refine wpAnyH_ready (rs := [14]) (by kernel_rfl) (by simp) ?_
          refine AllReadyH.cons rfl (fun K hK => ?_) AllReadyH.nil
          go_simp
          refine (same_yes M19.out L19.out HSL.out (by omega)).mono ?_
          rintro e w20 ⟨rfl, hk⟩
          have KB20 := hid (KB19.out.trans hk)
          clear hk
          try dsimp only []
          refine hK.out _ _ (by exact And.intro (cells4' ((KB20.out.block zb (row_lt ZB16.out) id).trans ZB16.out)) (cells4' ((KB20.out.block wb (row_lt WB16.out) id).trans WB16.out))) (fun hHeld => ?_)
          clear hK K
          try simp only [Act.put, List.setIfInBounds_toArray, List.set_cons_zero, List.set_cons_succ]
          refine wpAnyH_at 15 (some 81) (v := ?v7315) (by decide) rfl (by kernel_rfl) (by kernel_rfl) (by kernel_rfl) (fun _ _ _ h => h) (Or.inl ⟨by rfl, ?y7315⟩) (by assumption) ?r7315
          case y7315 => (intro w hSw; (try dsimp only at hSw); go_simp; (try with_reducible rfl))
          simp only [Act.put, List.setIfInBounds_toArray, List.set_cons_zero, List.set_cons_succ]
          refine wpAnyH_at 16 (some 82) (v := ?v7316) (by decide) rfl (by kernel_rfl) (by kernel_rfl) (by kernel_rfl) (fun _ _ _ h => h) (Or.inl ⟨by rfl, ?y7316⟩) (by assumption) ?r7316
          case y7316 => (intro w hSw; (try dsimp only at hSw); go_simp; (try with_reducible rfl))
          simp only [Act.put, List.setIfInBounds_toArray, List.set_cons_zero, List.set_cons_succ]
          refine wpAnyH_at 17 (some 83) (v := ?v7317) (by decide) rfl (by kernel_rfl) (by kernel_rfl) (by kernel_rfl) (fun _ _ _ h => h) (Or.inl ⟨by rfl, ?y7317⟩) (by assumption) ?r7317
          case y7317 => (intro w hSw; (try dsimp only at hSw); go_simp; (try with_reducible rfl))
          simp only [Act.put, List.setIfInBounds_toArray, List.set_cons_zero, List.set_cons_succ]
          refine wpAnyH_at 18 (some 84) (v := ?v7318) (by decide) rfl (by kernel_rfl) (by kernel_rfl) (by kernel_rfl) (fun _ _ _ h => h) (Or.inl ⟨by rfl, ?y7318⟩) (by assumption) ?r7318
          case y7318 => (intro w hSw; (try dsimp only at hSw); go_simp; (try with_reducible rfl))
          simp only [Act.put, List.setIfInBounds_toArray, List.set_cons_zero, List.set_cons_succ]
          refine wpAnyH_at 19 (some 85) (v := ?v7319) (by decide) rfl (by kernel_rfl) (by kernel_rfl) (by kernel_rfl) (fun _ _ _ h => h) (Or.inl ⟨by rfl, ?y7319⟩) (by assumption) ?r7319
          case y7319 => (intro w hSw; (try dsimp only at hSw); go_simp; (try with_reducible rfl))
          simp only [Act.put, List.setIfInBounds_toArray, List.set_cons_zero, List.set_cons_succ]
          refine wpAnyH_at 20 (some 86) (v := ?v7320) (by decide) rfl (by kernel_rfl) (by kernel_rfl) (by kernel_rfl) (fun _ _ _ h => h) (Or.inl ⟨by rfl, ?y7320⟩) (by assumption) ?r7320
          case y7320 => (intro w hSw; (try dsimp only at hSw); go_simp; (try with_reducible rfl))
          simp only [Act.put, List.setIfInBounds_toArray, List.set_cons_zero, List.set_cons_succ]
          refine wpAnyH_at 21 (some 87) (v := undef) (by decide) rfl (by kernel_rfl) (by kernel_rfl) (by kernel_rfl) (fun _ _ _ h => h) (Or.inr ⟨by rfl, rfl⟩) (by assumption) ?_
          simp only [Act.put, List.setIfInBounds_toArray, List.set_cons_zero, List.set_cons_succ]
          refine wpAnyH_at 22 (some 88) (v := undef) (by decide) rfl (by kernel_rfl) (by kernel_rfl) (by kernel_rfl) (fun _ _ _ h => h) (Or.inr ⟨by rfl, rfl⟩) (by assumption) ?_
          simp only [Act.put, List.setIfInBounds_toArray, List.set_cons_zero, List.set_cons_succ]
          refine wpAnyH_at 23 (some 89) (v := undef) (by decide) rfl (by kernel_rfl) (by kernel_rfl) (by kernel_rfl) (fun _ _ _ h => h) (Or.inr ⟨by rfl, rfl⟩) (by assumption) ?_
          simp only [Act.put, List.setIfInBounds_toArray, List.set_cons_zero, List.set_cons_succ]
          refine wpAnyH_at 24 (some 90) (v := undef) (by decide) rfl (by kernel_rfl) (by kernel_rfl) (by kernel_rfl) (fun _ _ _ h => h) (Or.inr ⟨by rfl, rfl⟩) (by assumption) ?_
          simp only [Act.put, List.setIfInBounds_toArray, List.set_cons_zero, List.set_cons_succ]
          refine wpAnyH_at 25 (some 91) (v := undef) (by decide) rfl (by kernel_rfl) (by kernel_rfl) (by kernel_rfl) (fun _ _ _ h => h) (Or.inr ⟨by rfl, rfl⟩) (by assumption) ?_
          simp only [Act.put, List.setIfInBounds_toArray, List.set_cons_zero, List.set_cons_succ]
          refine wpAnyH_at 26 (some 92) (v := ?v7326) (by decide) rfl (by kernel_rfl) (by kernel_rfl) (by kernel_rfl) (fun _ _ _ h => h) (Or.inl ⟨by rfl, ?y7326⟩) (by assumption) ?r7326
          case y7326 => (intro w hSw; (try dsimp only at hSw); go_simp; (try with_reducible rfl))
          simp only [Act.put, List.setIfInBounds_toArray, List.set_cons_zero, List.set_cons_succ]
          refine wpAnyH_at 27 (some 93) (v := ?v7327) (by decide) rfl (by kernel_rfl) (by kernel_rfl) (by kernel_rfl) (fun _ _ _ h => h) (Or.inl ⟨by rfl, ?y7327⟩) (by assumption) ?r7327
          case y7327 => (intro w hSw; (try dsimp only at hSw); go_simp; (try with_reducible rfl))
          simp only [Act.put, List.setIfInBounds_toArray, List.set_cons_zero, List.set_cons_succ]
          refine wpAnyH_at 28 (some 4) (v := ?v7328) (by decide) rfl (by kernel_rfl) (by kernel_rfl) (by kernel_rfl) (fun _ _ _ h => h) (Or.inl ⟨by rfl, ?y7328⟩) (by assumption) ?r7328
          case y7328 => (intro w hSw; (try dsimp only at hSw); go_simp; (try with_reducible rfl))
          simp only [Act.put, List.setIfInBounds_toArray, List.set_cons_zero, List.set_cons_succ]
          refine wpAnyH_done (by kernel_rfl) ?_ _
          go_wp2
          go_ret
          exact ⟨rfl, (K16.out.trans KB20.out).below (Nat.le_refl _) (fun _ h => h.elim)⟩
        · have hd : ((NA : Int) == 0) = false := by rw [beq_eq_false_iff_ne]; omega
          have hpos : (0 : Int) < (NA : Int) := by omega
          obtain ⟨xx, hx1⟩ : ∃ xx, (sortS A)[0]? = some xx := ⟨_, List.getElem?_eq_getElem (by rw [HSL.out]; exact h0)⟩
          have hx2 := sortS_first hx1
          rw [HX.out] at hx2
          subst hx2
          have H0 := hid hx1
          clear hx1
          obtain ⟨gl, ol, rfl, f0, f1, f2, f3⟩ := st_cells L16.out HSL.out (Kept.refl _ _) H0.out
          have M16 := hid (And.intro f0 (And.intro f1 (And.intro f2 f3)))
          clear f0 f1 f2 f3
          have s1 := And.intro M16.out (And.intro (cells4' XB16.out) (And.intro (cells4' ZB16.out) (cells4' WB16.out)))
          simp only [Nat.zero_mul, Nat.add_zero] at s1
          go_region_held3 (fun w' => (w'.cell? ⟨gl, ol, none⟩ = some (.int .u64 x1) ∧ w'.cell? ⟨gl, ol + 1, none⟩ = some (.int .u8 x2) ∧ w'.cell? ⟨gl, ol + 2, none⟩ = some (.int .u32 x3) ∧ w'.cell? ⟨gl, ol + 3, none⟩ = some (.int .u32 x4)) ∧ (w'.cell? ⟨xb, 0, none⟩ = some (.int .u64 x1) ∧ w'.cell? ⟨xb, 1, none⟩ = some (.int .u8 x2) ∧ w'.cell? ⟨xb, 2, none⟩ = some (.int .u32 x3) ∧ w'.cell? ⟨xb, 3, none⟩ = some (.int .u32 x4)) ∧ (w'.cell? ⟨zb, 0, none⟩ = some (.int .u64 z1) ∧ w'.cell? ⟨zb, 1, none⟩ = some (.int .u8 z2) ∧ w'.cell? ⟨zb, 2, none⟩ = some (.int .u32 z3) ∧ w'.cell? ⟨zb, 3, none⟩ = some (.int .u32 z4)) ∧ w'.cell? ⟨wb, 0, none⟩ = some (.int .u64 z1) ∧ w'.cell? ⟨wb, 1, none⟩ = some (.int .u8 z2) ∧ w'.cell? ⟨wb, 2, none⟩ = some (.int .u32 z3) ∧ w'.cell? ⟨wb, 3, none⟩ = some (.int .u32 z4)) (first | exact s1 | exact s2 | exact s3 | exact s4 | exact s5)
            (first
              | (go_at_call 17; refine (ssort_any L16.out HSL.out (by omega)).mono ?_; rintro e w17 ⟨p9, q9, rfl, hs, hk⟩; rw [sortS_sortS] at hs; have L17 := hid hs.lies; have M17 := hid (L16.out.same hk); have KB17 := hid hk; have s2 := keep4 hk s1; clear hs hk)
              | (go_at_call 21; refine (back_any L17.out HSL.out (by omega)).mono ?_; rintro e w18 ⟨p10, q10, rfl, ho, hk⟩; have L18 := hid (ho.lies (F := fun _ => False) (encS_one _) (fun _ _ => id)); have M18 := hid (M17.out.same hk); have KB18 := hid (KB17.out.trans hk); have s3 := keep4 hk s2; clear ho hk L17)
              | (go_at_call 21; refine (back_any M18.out HSL.out (by omega)).mono ?_; rintro e w19 ⟨p11, q11, rfl, ho, hk⟩; have L19 := hid (ho.lies (F := fun _ => False) (encS_one _) (fun _ _ => id)); have M19 := hid (L18.out.same hk); have KB19 := hid (KB18.out.trans hk); have s4 := keep4 hk s3; clear ho hk)
              | (go_at_call 20; refine (same_yes M19.out L19.out HSL.out (by omega)).mono ?_; rintro e w20 ⟨rfl, hk⟩; have KB20 := hid (KB19.out.trans hk); have s5 := keep4 hk s4; clear hk))
          go_wp2
          go_ret
          exact ⟨rfl, (K16.out.trans KB20.out).below (Nat.le_refl _) (fun _ h => h.elim)⟩
      · have hzx : z1 = x1 ∧ z2 = x2 ∧ z3 = x3 ∧ z4 = x4 ∧ bC = true := by
          have h := HLAW.out
          simp only [true_and, he, or_false, Bool.true_eq_false, if_false, Prod.mk.injEq] at h
          exact ⟨h.1.1, h.1.2.1, h.1.2.2.1, h.1.2.2.2, h.2⟩
        obtain ⟨c, hc⟩ : ∃ c, ordS (y1, y2, y3, y4) (x1, x2, x3, x4) = c := ⟨_, rfl⟩
        have hcn : ¬ c < 0 := by rw [← hc]; exact fun h => he (ordS_neg.1 h)
        rw [hc]
        clear HLAW he hc
        obtain ⟨e1, e2, e3, e4, e5⟩ := hzx
        subst e1 e2 e3 e4 e5
        go_wp2_with fail
        have ZB14 := hid ZB15.out; have WB14 := hid WB15.out; have XB14 := hid XB15.out; have K14 := hid K15.out; have HA14 := hid HA15.out
        clear ZB15 WB15 XB15 YB15 K15 HA15 hcn
        refine (stamps_lies HA14.out HAL.out (by omega)).mono ?_
        rintro e w15 ⟨p7, q7, rfl, hl, hk⟩
        have L15 := hid hl; have K15 := hid (K14.out.trans hk); have XB15 := hid ((hk.block xb (row_lt XB14.out) id).trans XB14.out); have ZB15 := hid ((hk.block zb (row_lt ZB14.out) id).trans ZB14.out); have WB15 := hid ((hk.block wb (row_lt WB14.out) id).trans WB14.out)
        clear hl hk K14 XB14 ZB14 WB14 HA14
        go_wp2_with fail
        refine (ssort_any L15.out HAL.out (by omega)).mono ?_
        rintro e w16 ⟨p8, q8, rfl, hs, hk⟩
        have hk1 := hk.trans (Kept.refl (fun _ => False) w16).drew
        have L16 := hid (hs.lies.same (Kept.refl (fun _ => False) w16).drew); have HSL := hid hs.1; have K16 := hid (K15.out.trans hk1); have XB16 := hid ((hk1.block xb (row_lt XB15.out) id).trans XB15.out); have ZB16 := hid ((hk1.block zb (row_lt ZB15.out) id).trans ZB15.out); have WB16 := hid ((hk1.block wb (row_lt WB15.out) id).trans WB15.out)
        clear hs hk hk1 K15 XB15 ZB15 WB15 L15
        have hc16 := lies_cap L16.out
        unfold maxLen at hc16
        obtain ⟨hc1, hc2⟩ := hc16
        go_wp2_with fail
        rcases Nat.eq_zero_or_pos NA with h0 | h0
        · have hd : ((NA : Int) == 0) = true := by rw [h0]; rfl
          clear h0
          have z1' := cells4' ZB16.out
          have w1' := cells4' WB16.out
          have s1 := And.intro z1' w1'
          clear z1' w1'
          refine wp_region_held_drew (S := fun w' => (w'.cell? ⟨zb, 0, none⟩ = some (.int .u64 z1) ∧ w'.cell? ⟨zb, 1, none⟩ = some (.int .u8 z2) ∧ w'.cell? ⟨zb, 2, none⟩ = some (.int .u32 z3) ∧ w'.cell? ⟨zb, 3, none⟩ = some (.int .u32 z4)) ∧ w'.cell? ⟨wb, 0, none⟩ = some (.int .u64 z1) ∧ w'.cell? ⟨wb, 1, none⟩ = some (.int .u8 z2) ∧ w'.cell? ⟨wb, 2, none⟩ = some (.int .u32 z3) ∧ w'.cell? ⟨wb, 3, none⟩ = some (.int .u32 z4)) (by kernel_rfl) (by exact s1) (fun hHeld => ?_)
          refine wpAnyH_at 0 (some 66) (v := ?v7400) (by decide) rfl (by kernel_rfl) (by kernel_rfl) (by kernel_rfl) (fun _ _ _ h => h) (Or.inl ⟨by rfl, ?y7400⟩) (by assumption) ?r7400
          case y7400 => (intro w hSw; (try dsimp only at hSw); go_simp; (try with_reducible rfl))
          simp only [Act.put, List.setIfInBounds_toArray, List.set_cons_zero, List.set_cons_succ]
          refine wpAnyH_at 1 (some 67) (v := ?v7401) (by decide) rfl (by kernel_rfl) (by kernel_rfl) (by kernel_rfl) (fun _ _ _ h => h) (Or.inl ⟨by rfl, ?y7401⟩) (by assumption) ?r7401
          case y7401 => (intro w hSw; (try dsimp only at hSw); go_simp; (try with_reducible rfl))
          simp only [Act.put, List.setIfInBounds_toArray, List.set_cons_zero, List.set_cons_succ]
          refine wpAnyH_at 2 (some 68) (v := ?v7402) (by decide) rfl (by kernel_rfl) (by kernel_rfl) (by kernel_rfl) (fun _ _ _ h => h) (Or.inl ⟨by rfl, ?y7402⟩) (by assumption) ?r7402
          case y7402 => (intro w hSw; (try dsimp only at hSw); go_simp; (try with_reducible rfl))
          simp only [Act.put, List.setIfInBounds_toArray, List.set_cons_zero, List.set_cons_succ]
          refine wpAnyH_at 3 (some 69) (v := ?v7403) (by decide) rfl (by kernel_rfl) (by kernel_rfl) (by kernel_rfl) (fun _ _ _ h => h) (Or.inl ⟨by rfl, ?y7403⟩) (by assumption) ?r7403
          case y7403 => (intro w hSw; (try dsimp only at hSw); go_simp; (try with_reducible rfl))
          simp only [Act.put, List.setIfInBounds_toArray, List.set_cons_zero, List.set_cons_succ]
          refine wpAnyH_at 4 (some 70) (v := ?v7404) (by decide) rfl (by kernel_rfl) (by kernel_rfl) (by kernel_rfl) (fun _ _ _ h => h) (Or.inl ⟨by rfl, ?y7404⟩) (by assumption) ?r7404
          case y7404 => (intro w hSw; (try dsimp only at hSw); go_simp; (try with_reducible rfl))
          simp only [Act.put, List.setIfInBounds_toArray, List.set_cons_zero, List.set_cons_succ]
          refine wpAnyH_at 5 (some 71) (v := ?v7405) (by decide) rfl (by kernel_rfl) (by kernel_rfl) (by kernel_rfl) (fun _ _ _ h => h) (Or.inl ⟨by rfl, ?y7405⟩) (by assumption) ?r7405
          case y7405 => (intro w hSw; (try dsimp only at hSw); go_simp; (try with_reducible rfl))
          simp only [Act.put, List.setIfInBounds_toArray, List.set_cons_zero, List.set_cons_succ]
          refine wpAnyH_at 6 (some 72) (v := ?v7406) (by decide) rfl (by kernel_rfl) (by kernel_rfl) (by kernel_rfl) (fun _ _ _ h => h) (Or.inl ⟨by rfl, ?y7406⟩) (by assumption) ?r7406
          case y7406 => (intro w hSw; (try dsimp only at hSw); go_simp; (try with_reducible rfl))
          simp only [Act.put, List.setIfInBounds_toArray, List.set_cons_zero, List.set_cons_succ]
          refine wpAnyH_at 7 (some 73) (v := ?v7407) (by decide) rfl (by kernel_rfl) (by kernel_rfl) (by kernel_rfl) (fun _ _ _ h => h) (Or.inl ⟨by rfl, ?y7407⟩) (by assumption) ?r7407
          case y7407 => (intro w hSw; (try dsimp only at hSw); go_simp; (try with_reducible rfl))
          simp only [Act.put, List.setIfInBounds_toArray, List.set_cons_zero, List.set_cons_succ]
          refine wpAnyH_at 8 (some 74) (v := ?v7408) (by decide) rfl (by kernel_rfl) (by kernel_rfl) (by kernel_rfl) (fun _ _ _ h => h) (Or.inl ⟨by rfl, ?y7408⟩) (by assumption) ?r7408
          case y7408 => (intro w hSw; (try dsimp only at hSw); go_simp; (try with_reducible rfl))
          simp only [Act.put, List.setIfInBounds_toArray, List.set_cons_zero, List.set_cons_succ]
          refine wpAnyH_at 9 (some 75) (v := ?v7409) (by decide) rfl (by kernel_rfl) (by kernel_rfl) (by kernel_rfl) (fun _ _ _ h => h) (Or.inl ⟨by rfl, ?y7409⟩) (by assumption) ?r7409
          case y7409 => (intro w hSw; (try dsimp only at hSw); go_simp; (try with_reducible rfl))
          simp only [Act.put, List.setIfInBounds_toArray, List.set_cons_zero, List.set_cons_succ]
          refine wpAnyH_at 12 (some 78) (v := ?v7412) (by decide) rfl (by kernel_rfl) (by kernel_rfl) (by kernel_rfl) (fun _ _ _ h => h) (Or.inl ⟨by rfl, ?y7412⟩) (by assumption) ?r7412
          case y7412 => (intro w hSw; (try dsimp only at hSw); go_simp; (try with_reducible rfl))
          simp only [Act.put, List.setIfInBounds_toArray, List.set_cons_zero, List.set_cons_succ]
          refine wpAnyH_ready (rs := [10]) (by kernel_rfl) (by simp) ?_
          refine AllReadyH.cons rfl (fun K hK => ?_) AllReadyH.nil
          go_simp
          refine (ssort_any L16.out HSL.out (by omega)).mono ?_
          rintro e w17 ⟨p9, q9, rfl, hs, hk⟩
          rw [sortS_sortS] at hs
          have L17 := hid hs.lies; have M17 := hid (L16.out.same hk); have KB17 := hid hk
          clear hs hk s1
          try dsimp only []
          refine hK.out _ _ (by exact And.intro (cells4' ((KB17.out.block zb (row_lt ZB16.out) id).trans ZB16.out)) (cells4' ((KB17.out.block wb (row_lt WB16.out) id).trans WB16.out))) (fun hHeld => ?_)
          clear hK K
          try simp only [Act.put, List.setIfInBounds_toArray, List.set_cons_zero, List.set_cons_succ]
          refine wpAnyH_ready (rs := [11]) (by kernel_rfl) (by simp) ?_
          refine AllReadyH.cons rfl (fun K hK => ?_) AllReadyH.nil
          go_simp
          refine (back_any L17.out HSL.out (by omega)).mono ?_
          rintro e w18 ⟨p10, q10, rfl, ho, hk⟩
          have L18 := hid (ho.lies (F := fun _ => False) (encS_one _) (fun _ _ => id)); have M18 := hid (M17.out.same hk); have KB18 := hid (KB17.out.trans hk)
          clear ho hk L17
          try dsimp only []
          refine hK.out _ _ (by exact And.intro (cells4' ((KB18.out.block zb (row_lt ZB16.out) id).trans ZB16.out)) (cells4' ((KB18.out.block wb (row_lt WB16.out) id).trans WB16.out))) (fun hHeld => ?_)
          clear hK K
          try simp only [Act.put, List.setIfInBounds_toArray, List.set_cons_zero, List.set_cons_succ]
          refine wpAnyH_ready (rs := [13]) (by kernel_rfl) (by simp) ?_
          refine AllReadyH.cons rfl (fun K hK => ?_) AllReadyH.nil
          go_simp
          refine (back_any M18.out HSL.out (by omega)).mono ?_
          rintro e w19 ⟨p11, q11, rfl, ho, hk⟩
          have L19 := hid (ho.lies (F := fun _ => False) (encS_one _) (fun _ _ => id)); have M19 := hid (L18.out.same hk); have KB19 := hid (KB18.out.trans hk)
          clear ho hk
          try dsimp only []
          refine hK.out _ _ (by exact And.intro (cells4' ((KB19.out.block zb (row_lt ZB16.out) id).trans ZB16.out)) (cells4' ((KB19.out.block wb (row_lt WB16.out) id).trans WB16.out))) (fun hHeld => ?_)
          clear hK K
          try simp only [Act.put, List.setIfInBounds_toArray, List.set_cons_zero, List.set_cons_succ]
          refine wpAnyH_ready (rs := [14]) (by kernel_rfl) (by simp) ?_
          refine AllReadyH.cons rfl (fun K hK => ?_) AllReadyH.nil
          go_simp
          refine (same_yes M19.out L19.out HSL.out (by omega)).mono ?_
          rintro e w20 ⟨rfl, hk⟩
          have KB20 := hid (KB19.out.trans hk)
          clear hk
          try dsimp only []
          refine hK.out _ _ (by exact And.intro (cells4' ((KB20.out.block zb (row_lt ZB16.out) id).trans ZB16.out)) (cells4' ((KB20.out.block wb (row_lt WB16.out) id).trans WB16.out))) (fun hHeld => ?_)
          clear hK K
          try simp only [Act.put, List.setIfInBounds_toArray, List.set_cons_zero, List.set_cons_succ]
          refine wpAnyH_at 15 (some 81) (v := ?v7415) (by decide) rfl (by kernel_rfl) (by kernel_rfl) (by kernel_rfl) (fun _ _ _ h => h) (Or.inl ⟨by rfl, ?y7415⟩) (by assumption) ?r7415
          case y7415 => (intro w hSw; (try dsimp only at hSw); go_simp; (try with_reducible rfl))
          simp only [Act.put, List.setIfInBounds_toArray, List.set_cons_zero, List.set_cons_succ]
          refine wpAnyH_at 16 (some 82) (v := ?v7416) (by decide) rfl (by kernel_rfl) (by kernel_rfl) (by kernel_rfl) (fun _ _ _ h => h) (Or.inl ⟨by rfl, ?y7416⟩) (by assumption) ?r7416
          case y7416 => (intro w hSw; (try dsimp only at hSw); go_simp; (try with_reducible rfl))
          simp only [Act.put, List.setIfInBounds_toArray, List.set_cons_zero, List.set_cons_succ]
          refine wpAnyH_at 17 (some 83) (v := ?v7417) (by decide) rfl (by kernel_rfl) (by kernel_rfl) (by kernel_rfl) (fun _ _ _ h => h) (Or.inl ⟨by rfl, ?y7417⟩) (by assumption) ?r7417
          case y7417 => (intro w hSw; (try dsimp only at hSw); go_simp; (try with_reducible rfl))
          simp only [Act.put, List.setIfInBounds_toArray, List.set_cons_zero, List.set_cons_succ]
          refine wpAnyH_at 18 (some 84) (v := ?v7418) (by decide) rfl (by kernel_rfl) (by kernel_rfl) (by kernel_rfl) (fun _ _ _ h => h) (Or.inl ⟨by rfl, ?y7418⟩) (by assumption) ?r7418
          case y7418 => (intro w hSw; (try dsimp only at hSw); go_simp; (try with_reducible rfl))
          simp only [Act.put, List.setIfInBounds_toArray, List.set_cons_zero, List.set_cons_succ]
          refine wpAnyH_at 19 (some 85) (v := ?v7419) (by decide) rfl (by kernel_rfl) (by kernel_rfl) (by kernel_rfl) (fun _ _ _ h => h) (Or.inl ⟨by rfl, ?y7419⟩) (by assumption) ?r7419
          case y7419 => (intro w hSw; (try dsimp only at hSw); go_simp; (try with_reducible rfl))
          simp only [Act.put, List.setIfInBounds_toArray, List.set_cons_zero, List.set_cons_succ]
          refine wpAnyH_at 20 (some 86) (v := ?v7420) (by decide) rfl (by kernel_rfl) (by kernel_rfl) (by kernel_rfl) (fun _ _ _ h => h) (Or.inl ⟨by rfl, ?y7420⟩) (by assumption) ?r7420
          case y7420 => (intro w hSw; (try dsimp only at hSw); go_simp; (try with_reducible rfl))
          simp only [Act.put, List.setIfInBounds_toArray, List.set_cons_zero, List.set_cons_succ]
          refine wpAnyH_at 21 (some 87) (v := undef) (by decide) rfl (by kernel_rfl) (by kernel_rfl) (by kernel_rfl) (fun _ _ _ h => h) (Or.inr ⟨by rfl, rfl⟩) (by assumption) ?_
          simp only [Act.put, List.setIfInBounds_toArray, List.set_cons_zero, List.set_cons_succ]
          refine wpAnyH_at 22 (some 88) (v := undef) (by decide) rfl (by kernel_rfl) (by kernel_rfl) (by kernel_rfl) (fun _ _ _ h => h) (Or.inr ⟨by rfl, rfl⟩) (by assumption) ?_
          simp only [Act.put, List.setIfInBounds_toArray, List.set_cons_zero, List.set_cons_succ]
          refine wpAnyH_at 23 (some 89) (v := undef) (by decide) rfl (by kernel_rfl) (by kernel_rfl) (by kernel_rfl) (fun _ _ _ h => h) (Or.inr ⟨by rfl, rfl⟩) (by assumption) ?_
          simp only [Act.put, List.setIfInBounds_toArray, List.set_cons_zero, List.set_cons_succ]
          refine wpAnyH_at 24 (some 90) (v := undef) (by decide) rfl (by kernel_rfl) (by kernel_rfl) (by kernel_rfl) (fun _ _ _ h => h) (Or.inr ⟨by rfl, rfl⟩) (by assumption) ?_
          simp only [Act.put, List.setIfInBounds_toArray, List.set_cons_zero, List.set_cons_succ]
          refine wpAnyH_at 25 (some 91) (v := undef) (by decide) rfl (by kernel_rfl) (by kernel_rfl) (by kernel_rfl) (fun _ _ _ h => h) (Or.inr ⟨by rfl, rfl⟩) (by assumption) ?_
          simp only [Act.put, List.setIfInBounds_toArray, List.set_cons_zero, List.set_cons_succ]
          refine wpAnyH_at 26 (some 92) (v := ?v7426) (by decide) rfl (by kernel_rfl) (by kernel_rfl) (by kernel_rfl) (fun _ _ _ h => h) (Or.inl ⟨by rfl, ?y7426⟩) (by assumption) ?r7426
          case y7426 => (intro w hSw; (try dsimp only at hSw); go_simp; (try with_reducible rfl))
          simp only [Act.put, List.setIfInBounds_toArray, List.set_cons_zero, List.set_cons_succ]
          refine wpAnyH_at 27 (some 93) (v := ?v7427) (by decide) rfl (by kernel_rfl) (by kernel_rfl) (by kernel_rfl) (fun _ _ _ h => h) (Or.inl ⟨by rfl, ?y7427⟩) (by assumption) ?r7427
          case y7427 => (intro w hSw; (try dsimp only at hSw); go_simp; (try with_reducible rfl))
          simp only [Act.put, List.setIfInBounds_toArray, List.set_cons_zero, List.set_cons_succ]
          refine wpAnyH_at 28 (some 4) (v := ?v7428) (by decide) rfl (by kernel_rfl) (by kernel_rfl) (by kernel_rfl) (fun _ _ _ h => h) (Or.inl ⟨by rfl, ?y7428⟩) (by assumption) ?r7428
          case y7428 => (intro w hSw; (try dsimp only at hSw); go_simp; (try with_reducible rfl))
          simp only [Act.put, List.setIfInBounds_toArray, List.set_cons_zero, List.set_cons_succ]
          refine wpAnyH_done (by kernel_rfl) ?_ _
          go_wp2
          go_ret
          exact ⟨rfl, (K16.out.trans KB20.out).below (Nat.le_refl _) (fun _ h => h.elim)⟩
        · have hd : ((NA : Int) == 0) = false := by rw [beq_eq_false_iff_ne]; omega
          have hpos : (0 : Int) < (NA : Int) := by omega
          obtain ⟨xx, hx1⟩ : ∃ xx, (sortS A)[0]? = some xx := ⟨_, List.getElem?_eq_getElem (by rw [HSL.out]; exact h0)⟩
          have hx2 := sortS_first hx1
          rw [HX.out] at hx2
          subst hx2
          have H0 := hid hx1
          clear hx1
          obtain ⟨gl, ol, rfl, f0, f1, f2, f3⟩ := st_cells L16.out HSL.out (Kept.refl _ _) H0.out
          have M16 := hid (And.intro f0 (And.intro f1 (And.intro f2 f3)))
          clear f0 f1 f2 f3
          have s1 := And.intro M16.out (And.intro (cells4' XB16.out) (And.intro (cells4' ZB16.out) (cells4' WB16.out)))
          simp only [Nat.zero_mul, Nat.add_zero] at s1
          go_region_held3 (fun w' => (w'.cell? ⟨gl, ol, none⟩ = some (.int .u64 z1) ∧ w'.cell? ⟨gl, ol + 1, none⟩ = some (.int .u8 z2) ∧ w'.cell? ⟨gl, ol + 2, none⟩ = some (.int .u32 z3) ∧ w'.cell? ⟨gl, ol + 3, none⟩ = some (.int .u32 z4)) ∧ (w'.cell? ⟨xb, 0, none⟩ = some (.int .u64 z1) ∧ w'.cell? ⟨xb, 1, none⟩ = some (.int .u8 z2) ∧ w'.cell? ⟨xb, 2, none⟩ = some (.int .u32 z3) ∧ w'.cell? ⟨xb, 3, none⟩ = some (.int .u32 z4)) ∧ (w'.cell? ⟨zb, 0, none⟩ = some (.int .u64 z1) ∧ w'.cell? ⟨zb, 1, none⟩ = some (.int .u8 z2) ∧ w'.cell? ⟨zb, 2, none⟩ = some (.int .u32 z3) ∧ w'.cell? ⟨zb, 3, none⟩ = some (.int .u32 z4)) ∧ w'.cell? ⟨wb, 0, none⟩ = some (.int .u64 z1) ∧ w'.cell? ⟨wb, 1, none⟩ = some (.int .u8 z2) ∧ w'.cell? ⟨wb, 2, none⟩ = some (.int .u32 z3) ∧ w'.cell? ⟨wb, 3, none⟩ = some (.int .u32 z4)) (first | exact s1 | exact s2 | exact s3 | exact s4 | exact s5)
            (first
              | (go_at_call 17; refine (ssort_any L16.out HSL.out (by omega)).mono ?_; rintro e w17 ⟨p9, q9, rfl, hs, hk⟩; rw [sortS_sortS] at hs; have L17 := hid hs.lies; have M17 := hid (L16.out.same hk); have KB17 := hid hk; have s2 := keep4 hk s1; clear hs hk)
              | (go_at_call 21; refine (back_any L17.out HSL.out (by omega)).mono ?_; rintro e w18 ⟨p10, q10, rfl, ho, hk⟩; have L18 := hid (ho.lies (F := fun _ => False) (encS_one _) (fun _ _ => id)); have M18 := hid (M17.out.same hk); have KB18 := hid (KB17.out.trans hk); have s3 := keep4 hk s2; clear ho hk L17)
              | (go_at_call 21; refine (back_any M18.out HSL.out (by omega)).mono ?_; rintro e w19 ⟨p11, q11, rfl, ho, hk⟩; have L19 := hid (ho.lies (F := fun _ => False) (encS_one _) (fun _ _ => id)); have M19 := hid (L18.out.same hk); have KB19 := hid (KB18.out.trans hk); have s4 := keep4 hk s3; clear ho hk)
              | (go_at_call 20; refine (same_yes M19.out L19.out HSL.out (by omega)).mono ?_; rintro e w20 ⟨rfl, hk⟩; have KB20 := hid (KB19.out.trans hk); have s5 := keep4 hk s4; clear hk))
          go_wp2
          go_ret
          exact ⟨rfl, (K16.out.trans KB20.out).below (Nat.le_refl _) (fun _ h => h.elim)⟩
end Go.Proofs.Ytfkkfjmdpkgicaa
