/- ParseInt at every string; the variables that it reads. -/
import Derived.Test.YtnicaiofjficnaaDoorI
import Derived.Test.YtnicaiofjficnaaDoorO
import Derived.Test.YtnicaiofjficnaaDoorP
import Derived.Lib.LaidU8
import Derived.Lib.SmallJoins
namespace Go.Proofs.YtnicaiofjficnaaDoor
open Go.RowKit Go.Shelf
/-- a variable of an interface type holds nothing or something -/
def IfaceAt (w : World) (g : Nat) : Prop := ∃ ev, w.cell? ⟨g, 0, none⟩ = some ev ∧ (ev = .nilIface ∨ ∃ te pe, ev = .iface te pe)
theorem IfaceAt.kept {w w' : World} {g : Nat} (h : IfaceAt w g) (k : Kept (fun _ => False) w w') : IfaceAt w' g := by
  obtain ⟨ev, h1, h2⟩ := h
  exact ⟨ev, k.cell h1 id, h2⟩
set_option maxRecDepth 10000 in
theorem iface_of {W : World} {n : String} {d : DataW Unit} {g t : Nat} {ms : Array (String × TypeId)} (hg : Tryd.prog.globalNamed n = some g) (ht : (Tryd.prog.globals[g]?).map (·.type) = some t) (hu : Tryd.prog.underlying t = some (.interface ms)) (h : Lib.VarReads Tryd.prog W n d) : IfaceAt W g := by
  obtain ⟨g', t', cs, fuel, p, h1, h2, h3, h4⟩ := h
  obtain rfl := Option.some.inj (hg.symm.trans h1)
  obtain rfl := Option.some.inj (ht.symm.trans h2)
  have hc := World.var?_cell hg h3 0
  cases fuel with
  | zero => simp [DataW.trod] at h4
  | succ fuel =>
    obtain ⟨l⟩ := cs
    match l, hc, h4 with
    | [], _, h4 => simp [DataW.trod, hu] at h4
    | _ :: _ :: _, _, h4 => simp [DataW.trod, hu] at h4
    | [c], hc, h4 =>
      refine ⟨c, hc, ?_⟩
      cases c with
      | nilIface => exact .inl rfl
      | iface te pe => exact .inr ⟨te, pe, rfl⟩
      | _ => simp [DataW.trod, hu] at h4
structure Errs (w : World) : Prop where
  syn : IfaceAt w 2
  rng : IfaceAt w 3
theorem Errs.kept {w w' : World} (h : Errs w) (k : Kept (fun _ => False) w w') : Errs w' := ⟨h.syn.kept k, h.rng.kept k⟩
theorem kept_below {w w' : World} (h : Below w.heap.size w w') : Kept (fun _ => False) w w' := Kept.of_below h _
abbrev pint (s : ByteArray) : Lib.NumEnd Int := Lib.parseIntB 64 s.data.toList
/-- what ParseInt gives: a number and nil, or something and an error -/
theorem parseint_any (s : ByteArray) (hs : s.size ≤ 281474976710656) (w : World) (hE : Errs w) :
    Calls Tryd.prog 25 #[.string s, .int .i64 10, .int .i64 64] w fun e w' => ∃ (n : Int) (ev : Value), e = .returned (.tuple #[.int .i64 n, ev]) ∧ ((pint s = .ok n ∧ ev = .nilIface) ∨ ((∀ v, pint s ≠ .ok v) ∧ ∃ t p, ev = .iface t (.pointer p))) ∧ Kept (fun _ => False) w w' := by
  cases h : pint s
  case ok v =>
    refine (show Calls Tryd.prog 25 #[.string s, .int .i64 10, .int .i64 64] w _ from Any.strconv_ParseInt_10_at64_ok Tryd.lays174 s (by omega) v h w).mono fun e w' ⟨he, hw⟩ => ⟨v, .nilIface, he, .inl ⟨rfl, rfl⟩, ?_⟩
    rcases hw with rfl | ⟨t, rfl⟩
    · exact Kept.refl _ _
    · exact kept_below (Joins.below_bytesWorld _ _ _ _ (Nat.le_refl _))
  case range =>
    obtain ⟨ev, h1, h2⟩ := hE.rng
    exact (show Calls Tryd.prog 25 #[.string s, .int .i64 10, .int .i64 64] w _ from Any.strconv_ParseInt_10_at64_range Tryd.lays174 s hs h ev w h1 h2).mono fun e w' ⟨N, he, _, _, hb⟩ => ⟨_, _, he, .inr ⟨(fun v hv => by cases hv), _, _, rfl⟩, kept_below hb⟩
  · obtain ⟨ev, h1, h2⟩ := hE.syn
    exact (show Calls Tryd.prog 25 #[.string s, .int .i64 10, .int .i64 64] w _ from Any.strconv_ParseInt_10_at64_syntax Tryd.lays174 s hs h ev w h1 h2).mono fun e w' ⟨N, he, _, _, hb⟩ => ⟨_, _, he, .inr ⟨(fun v hv => by cases hv), _, _, rfl⟩, kept_below hb⟩
end Go.Proofs.YtnicaiofjficnaaDoor
