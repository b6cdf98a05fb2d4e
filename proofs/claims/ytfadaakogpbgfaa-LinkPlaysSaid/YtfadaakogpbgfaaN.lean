/-
  Link: Hear at a row.
-/
import Derived.Test.YtfadaakogpbgfaaM
namespace Go.Proofs.Ytfadaakogpbgfaa
set_option linter.unusedVariables false
open Go.ChangeShapes Go.WideShapes Go.ChangeAt Go.RowKit Go.Sort

set_option maxHeartbeats 1000000 in
theorem hear_2 (b h : Nat) (nx t l now s a k : Int) (g off cap : Nat) (zs : List Int) (hzl : zs.length ≤ 64) (m : Nat) (hm : m < 2 ^ 32) (is : Bool) (w : World) (A : LinkAt w b nx (.slice (some ⟨g, off, none⟩) zs.length cap) h t) (hR : RowAt w g off cap zs) (hgs : g < w.heap.size) (hh : HeardAt w h is l m) (hhb : h ≠ b) (hbs : b < w.heap.size) (hhs : h < w.heap.size) :
    Calls Try.prog 12 #[.pointer (some ⟨b, 0, none⟩), .int .i64 now, .int .u16 s, .int .u16 a, .int .u32 k] w fun e w' => e = .returned (.bool (noteB is l s m)) ∧ ∃ v', LinkAt w' b nx v' h (max t now) ∧ HeardAt w' h true (noteL is l s) (noteM is l s m) ∧ OpenAt w' (fun k => w.heap.size ≤ k) v' (zs.filter fun x => !toldF x a k) ∧ Frame (fun k => k = b ∨ k = h) w w' := by
  have hA := A
  have c1 := A.c1
  go_enter Try.func12, Try.ntmps12
  go_wp2_with fail
  have hB0 := ((Below.refl w.heap.size w).alloc (Nat.le_refl _) (Obj.cells #[Value.int IntKind.u16 a] 28)).alloc (by simp) (Obj.cells #[Value.int IntKind.u32 k] 29)
  have b1 : ((w.alloc (Obj.cells #[Value.int IntKind.u16 a] 28)).alloc (Obj.cells #[Value.int IntKind.u32 k] 29)).cell? ⟨w.heap.size, 0, none⟩ = some (.int .u16 a) := by go_simp
  have b2 : ((w.alloc (Obj.cells #[Value.int IntKind.u16 a] 28)).alloc (Obj.cells #[Value.int IntKind.u32 k] 29)).cell? ⟨w.heap.size + 1, 0, none⟩ = some (.int .u32 k) := by go_simp
  have b3 : ((w.alloc (Obj.cells #[Value.int IntKind.u16 a] 28)).alloc (Obj.cells #[Value.int IntKind.u32 k] 29)).heap.size = w.heap.size + 2 := by simp
  generalize (w.alloc (Obj.cells #[Value.int IntKind.u16 a] 28)).alloc (Obj.cells #[Value.int IntKind.u32 k] 29) = W0 at *
  have hR0 := hR.block (hB0.block g hgs)
  refine (clone_any g off _ cap zs _ rfl (by omega) hR0.cell).mono ?_
  rintro e W1 ⟨v1, rfl, hown, hnil, hB1⟩
  obtain ⟨g1, cap1, rfl, hg1, hg2, hR1⟩ := rowAt_own hown hnil
  have hB01 := hB0.trans (hB1.mono (by omega))
  have b4 := (hB1.cell (p := ⟨w.heap.size, 0, none⟩) (by show w.heap.size < _; omega)).trans b1
  have b5 := (hB1.cell (p := ⟨w.heap.size + 1, 0, none⟩) (by show w.heap.size + 1 < _; omega)).trans b2
  have hs1 := hB1.size
  clear hown hnil b1 b2 c1
  go_wp2_with fail
  refine (del_row a k w.heap.size (w.heap.size + 1) g1 cap1 zs _ (by omega) (by omega) (by omega) (by omega) b4 b5 hR1 (by omega)).mono ?_
  rintro e W2 ⟨rfl, hR2, hB2⟩
  have hB := hB01.trans (hB2.mono (by omega))
  obtain ⟨c0, c1, c2, c3, f0, f1, f2, f3⟩ := hA.block (hB.block b hbs)
  obtain ⟨d0, d1, d2, g0, g1', g2⟩ := hh.block (hB.block h hhs)
  have hne := Ne.symm hhb
  have hgb : g1 ≠ b := by omega
  have hgh : g1 ≠ h := by omega
  have hs2 := hB2.size
  clear hB01 hB0 hB1 b4 b5 hR0 hR1 A hA hR hh
  go_wp2_with fail
  refine (note_any h is l s m hm _ ?hH).mono ?_
  case hH =>
    refine heardAt_of ?_ ?_ ?_ ?_ ?_ ?_
    all_goals go_light
    all_goals go_simp
  rintro e w' ⟨rfl, h1, hO⟩
  have hF : Frame (fun k => k = b) W2 _ := ((Frame.refl (fun k => k = b) W2).setCell (x := ⟨b, 1, none⟩) rfl (Value.slice (some ⟨g1, 0, none⟩) (zs.filter fun x => !toldF x a k).length cap1)).setCell (x := ⟨b, 3, none⟩) rfl (.int .i64 (max t now))
  have hL : LinkAt w' b nx (Value.slice (some ⟨g1, 0, none⟩) (zs.filter fun x => !toldF x a k).length cap1) h (max t now) := by
    refine LinkAt.block ?_ (hO.block b hne)
    refine linkAt_of ?_ ?_ ?_ ?_ ?_ ?_ ?_ ?_
    all_goals go_light
    all_goals go_simp
  have hg4 : g1 < W2.heap.size := by omega
  have hR3 := (hR2.block (hF.block g1 hg4 hgb)).block (hO.block g1 hgh)
  have hs3 : g1 < w'.heap.size := by rw [hO.size]; exact Nat.lt_of_lt_of_le hg4 hF.size
  have hFF : Frame (fun k => k = b ∨ k = h) w w' :=
    (Frame.trans ⟨hB.os, hB.tape, hB.output, hB.size, fun k hk _ => hB.block k hk⟩ (hF.mono (fun k hk => Or.inl hk))).trans ⟨hO.os, hO.tape, hO.output, Nat.le_of_eq hO.size.symm, fun k _ hp => hO.block k (fun e => hp (Or.inr e))⟩
  have hOp : OpenAt w' (fun k => w.heap.size ≤ k) (Value.slice (some ⟨g1, 0, none⟩) (zs.filter fun x => !toldF x a k).length cap1) (zs.filter fun x => !toldF x a k) := Or.inr ⟨g1, 0, cap1, rfl, by omega, hs3, hR3⟩
  have HL := Lib.hid (And.intro hL (And.intro h1 (And.intro hOp hFF)))
  clear hL h1 hOp hFF hR3 hO hF hs3 hR2 c0 c1 c2 c3 f0 f1 f2 f3 d0 d1 d2 g0 g1' g2
  go_wp2_with fail
  go_ret
  exact ⟨rfl, _, HL.out⟩
end Go.Proofs.Ytfadaakogpbgfaa
