/-
  Link: Hear.
-/
import Derived.Test.YtfadaakogpbgfaaJ
namespace Go.Proofs.Ytfadaakogpbgfaa
set_option linter.unusedVariables false
open Go.ChangeShapes Go.WideShapes Go.ChangeAt Go.RowKit Go.Sort

set_option maxHeartbeats 1000000 in
theorem hear_1 (b h : Nat) (nx t l now s a k : Int) (m : Nat) (hm : m < 2 ^ 32) (is : Bool) (w : World) (A : LinkAt w b nx (.slice none 0 0) h t) (hh : HeardAt w h is l m) (hhb : h ≠ b) (hbs : b < w.heap.size) (hhs : h < w.heap.size) :
    Calls Try.prog 12 #[.pointer (some ⟨b, 0, none⟩), .int .i64 now, .int .u16 s, .int .u16 a, .int .u32 k] w fun e w' => e = .returned (.bool (noteB is l s m)) ∧ LinkAt w' b nx (.slice none 0 0) h (max t now) ∧ HeardAt w' h true (noteL is l s) (noteM is l s m) ∧ Frame (fun k => k = b ∨ k = h) w w' := by
  obtain ⟨c0, c1, c2, c3, f0, f1, f2, f3⟩ := A
  obtain ⟨d0, d1, d2, g0, g1, g2⟩ := hh
  have hne := Ne.symm hhb
  go_enter Try.func12, Try.ntmps12
  go_wp2_with (first | (go_at_call 22; refine (clone_nil _ _ _).mono ?_; rintro e w' ⟨rfl, rfl⟩) | (go_at_call 21; refine (del_nil _ _).mono ?_; rintro e w' ⟨rfl, rfl⟩))
  refine (note_any h is l s m hm _ ?hH).mono ?_
  case hH =>
    refine heardAt_of ?_ ?_ ?_ ?_ ?_ ?_
    all_goals go_light
    all_goals go_simp
  rintro e w' ⟨rfl, h1, hO⟩
  have hL : LinkAt w' b nx (.slice none 0 0) h (max t now) := by
    refine LinkAt.block ?_ (hO.block b hne)
    refine linkAt_of ?_ ?_ ?_ ?_ ?_ ?_ ?_ ?_
    all_goals go_light
    all_goals go_simp
  have hF : Frame (fun k => k = b ∨ k = h) w w' := by
    refine Frame.trans ?_ ⟨hO.os, hO.tape, hO.output, Nat.le_of_eq hO.size.symm, fun k _ hp => hO.block k (fun e => hp (Or.inr e))⟩
    repeat (first | exact Frame.refl _ _ | refine Frame.alloc ?_ _ | refine Frame.setCell ?_ (Or.inl rfl) _ | refine Frame.drew ?_)
  have HL := Lib.hid (And.intro hL (And.intro h1 hF))
  clear hL hO h1 hF
  go_wp2_with fail
  go_ret
  exact ⟨rfl, HL.out.1, HL.out.2.1, HL.out.2.2⟩
end Go.Proofs.Ytfadaakogpbgfaa
