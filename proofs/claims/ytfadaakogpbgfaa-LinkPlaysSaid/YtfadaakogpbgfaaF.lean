/-
  Link: Stamp.
-/
import Derived.Test.YtfadaakogpbgfaaE
import Derived.ArgAppend
import Derived.RegionTactic
import Derived.ChangeAlike
import Derived.StillTailTactics
import Derived.Lib.MinMax
namespace Go.Proofs.Ytfadaakogpbgfaa
set_option linter.unusedVariables false
open Go.ChangeShapes Go.WideShapes Go.ChangeAt Go.RowKit Go.Sort

theorem region_tail {P : Program} {id : Nat} {Q : Exit → Act → World → Prop} {a : Act} {w : World} {l : List Oper} (n : Nat) (hm : P.follows .mixedOrders = true) (hB : Region.lexTailB .any l.toArray n = true)
    (h : wpStill P l.toArray w.drew (fun a' => wpList P l.toArray Q (l.drop n) a' w.drew) (l.take n) a) : (Code.region id l.toArray true).wp P Q a w := wp_region_still_tail n hm hB h
/-- Only blocks of which P says so, and new ones, may have turned. -/
structure Frame (P : Nat → Prop) (w w' : World) : Prop where
  os : w'.os = w.os
  tape : w'.tape = w.tape
  output : w'.output = w.output
  size : w.heap.size ≤ w'.heap.size
  block : ∀ k, k < w.heap.size → ¬P k → w'.heap[k]? = w.heap[k]?
def cut64 (zs : List Int) : List Int := zs.drop (zs.length - 64)
theorem HeardAt.block {w w' : World} {b : Nat} {is : Bool} {l m : Int} (a : HeardAt w b is l m) (k : w'.heap[b]? = w.heap[b]?) : HeardAt w' b is l m := by
  have hc : ∀ o, w'.cell? ⟨b, o, none⟩ = w.cell? ⟨b, o, none⟩ := fun o => World.cell?_of_block (w := w) k
  have hf : ∀ o, w'.frozen? ⟨b, o, none⟩ = w.frozen? ⟨b, o, none⟩ := fun o => World.frozen?_of_block (w := w) k
  exact ⟨by rw [hc, a.c0], by rw [hc, a.c1], by rw [hc, a.c2], by rw [hf, a.f0], by rw [hf, a.f1], by rw [hf, a.f2]⟩
theorem Frame.refl (P : Nat → Prop) (w : World) : Frame P w w := ⟨rfl, rfl, rfl, Nat.le_refl _, fun _ _ _ => rfl⟩
theorem Frame.trans {P : Nat → Prop} {x y z : World} (a : Frame P x y) (b : Frame P y z) : Frame P x z :=
  ⟨b.os.trans a.os, b.tape.trans a.tape, b.output.trans a.output, Nat.le_trans a.size b.size, fun k hk hp => (b.block k (Nat.lt_of_lt_of_le hk a.size) hp).trans (a.block k hk hp)⟩
theorem Frame.setCell {P : Nat → Prop} {w w' : World} (a : Frame P w w') {x : Addr} (hx : P x.block) (u : Value) : Frame P w (w'.setCell x u) := by
  have h := (Only.refl x.block w').setCell rfl u
  exact a.trans ⟨h.os, h.tape, h.output, Nat.le_of_eq h.size.symm, fun k _ hp => h.block k (fun e => hp (e ▸ hx))⟩
theorem Frame.alloc {P : Nat → Prop} {w w' : World} (a : Frame P w w') (o : Obj) : Frame P w (w'.alloc o) := by
  have h := (Below.refl w'.heap.size w').alloc (Nat.le_refl _) o
  exact a.trans ⟨h.os, h.tape, h.output, h.size, fun k hk _ => h.block k hk⟩
theorem Frame.drew {P : Nat → Prop} {w w' : World} (a : Frame P w w') : Frame P w w'.drew := ⟨a.os, a.tape, a.output, a.size, a.block⟩
theorem Frame.drewN {P : Nat → Prop} {w w' : World} (a : Frame P w w') (n : Nat) : Frame P w (w'.drewN n) := ⟨a.os, a.tape, a.output, a.size, a.block⟩
theorem Frame.grown {P : Nat → Prop} {w w' w2 : World} (a : Frame P w w') (g : w'.grownBy w2 none) : Frame P w w2 :=
  a.trans ⟨g.os, g.tape, g.output, g.size, fun k hk _ => g.block k hk (by simp)⟩
set_option maxHeartbeats 2000000 in
theorem stamp_1 (b h : Nat) (nx t l m : Int) (is : Bool) (R : Nat → Prop) (w : World) (a : LinkAt w b nx (.slice none 0 0) h t) (hh : HeardAt w h is l m) (hhb : h ≠ b) (hbs : b < w.heap.size) (hhs : h < w.heap.size) (hlo : ∀ k, w.heap.size ≤ k → R k) :
    Calls Try.prog 10 #[.pointer (some ⟨b, 0, none⟩)] w fun e w' => e = .returned (.tuple #[.int .u16 nx, .int .u16 l, .int .u32 m]) ∧ ∃ v', LinkAt w' b (IntKind.u16.wrap (nx + 1)) v' h t ∧ HeardAt w' h is l m ∧ OpenAt w' R v' [nx] ∧ Frame (fun k => k = b) w w' := by
  obtain ⟨i0, hi, hz0, hz1, hz2⟩ := info_parts (P := Try.prog) (e := 28) (z := .int .u16 0) (size := 1) (bytes := 2) (by kernel_rfl)
  obtain ⟨c0, c1, c2, c3, f0, f1, f2, f3⟩ := a
  have hne := Ne.symm hhb
  go_enter Try.func10, Try.ntmps10
  go_wp2_with (at_builtin; refine wpList_append_grows _ rfl _ _ 38 rfl 28 i0 (.int .u16 0) 1 2 Try.underlying38 hi hz0 hz1 hz2 rfl (by decide) none 0 0 [] rfl (fun _ => ⟨rfl, rfl⟩) rfl (by intro b hb; cases hb) _ 1 _ [.int .u16 nx] rfl rfl ?qc ?q1 (by decide) (by unfold maxLen; omega) (by decide) ?_)
  case qc =>
    intro j u hj
    cases j with
    | zero =>
      simp at hj
      subst hj
      rw [Addr.add_lit]
      go_simp
    | succ k => simp at hj
  case q1 => intro u hu; simp at hu; subst hu; rfl
  intro v' w1 hown hgrow
  have hF0 := ((Frame.refl (fun k => k = b) w).setCell (x := ⟨b, 0, none⟩) rfl (Value.int IntKind.u16 (IntKind.u16.wrap (nx + 1)))).alloc (Obj.cells #[Value.int IntKind.u16 nx] 28)
  have hF := hF0.grown hgrow
  have hL : LinkAt ((w.setCell ⟨b, 0, none⟩ (Value.int IntKind.u16 (IntKind.u16.wrap (nx + 1)))).alloc (Obj.cells #[Value.int IntKind.u16 nx] 28)) b (IntKind.u16.wrap (nx + 1)) (.slice none 0 0) h t := by
    refine linkAt_of ?_ ?_ ?_ ?_ ?_ ?_ ?_ ?_
    all_goals go_light
    all_goals go_simp
  have hb1 : b < ((w.setCell ⟨b, 0, none⟩ (Value.int IntKind.u16 (IntKind.u16.wrap (nx + 1)))).alloc (Obj.cells #[Value.int IntKind.u16 nx] 28)).heap.size := by simp; omega
  have hL1 := hL.block (hgrow.block b hb1 (by simp))
  have hH1 := hh.block (hF.block h hhs hhb)
  have hO1 := openAt_own (zs := [nx]) (by simpa using hown)
  clear hL hF0 hgrow hown hb1 c0 c1 c2 c3 f0 f1 f2 f3 hh
  rcases hO1 with ⟨-, hc⟩ | ⟨g, off, cap, rfl, hg1, hg2, hr⟩
  · cases hc
  try dsimp only at hg1
  have hgb : g ≠ b := by omega
  have hgh : g ≠ h := by omega
  obtain ⟨c0, c1, c2, c3, f0, f1, f2, f3⟩ := hL1
  have hcap : 1 ≤ cap := hr.le
  have hcapI : (1 : Int) ≤ (cap : Int) := by omega
  have hmx : max (IntKind.i64.wrap (-63)) 0 = 0 := by decide
  go_wp2_with fail
  refine region_tail 15 (by kernel_rfl) (by kernel_rfl) ?_
  simp only [List.take_succ_cons, List.take_zero, List.drop_succ_cons, List.drop_zero]
  repeat still_step
  refine wpStill_nil ?_
  have hF2 := (((Frame.refl (fun k => k = b) w1).setCell (x := ⟨b, 1, none⟩) rfl (Value.slice (some ⟨g, off, none⟩) 1 cap)).drew).setCell (x := ⟨b, 1, none⟩) rfl (Value.slice (some ⟨g, off, none⟩) 1 cap)
  have hL2 : LinkAt (((w1.setCell ⟨b, 1, none⟩ (Value.slice (some ⟨g, off, none⟩) 1 cap)).drew).setCell ⟨b, 1, none⟩ (Value.slice (some ⟨g, off, none⟩) 1 cap)) b (IntKind.u16.wrap (nx + 1)) (Value.slice (some ⟨g, off, none⟩) 1 cap) h t := by
    refine linkAt_of ?_ ?_ ?_ ?_ ?_ ?_ ?_ ?_
    all_goals go_light
    all_goals go_simp
  have hH2 := hH1.block (hF2.block h (Nat.lt_of_lt_of_le hhs hF.size) hhb)
  have hR2 := hr.block (hF2.block g hg2 hgb)
  have HH := Lib.hid hH2
  have HL := Lib.hid hL2
  have HR := Lib.hid hR2
  have HF := Lib.hid (hF.trans hF2)
  have hgs : g < (((w1.setCell ⟨b, 1, none⟩ (Value.slice (some ⟨g, off, none⟩) 1 cap)).drew).setCell ⟨b, 1, none⟩ (Value.slice (some ⟨g, off, none⟩) 1 cap)).heap.size := Nat.lt_of_lt_of_le hg2 hF2.size
  have HG := Lib.hid hgs
  clear hF2 hL2 hH2 hR2 hF hgs hH1 hr
  go_wp2_with (go_at_call 19; refine (last_any h is l m _ HH.out).mono ?_; rintro e w4 ⟨rfl, n4, rfl⟩)
  go_ret3
  refine ⟨rfl, _, HL.out.block rfl, HH.out.block rfl, Or.inr ⟨g, off, cap, rfl, hlo g (by omega), HG.out, HR.out.block rfl⟩, ⟨HF.out.os, HF.out.tape, HF.out.output, HF.out.size, HF.out.block⟩⟩
end Go.Proofs.Ytfadaakogpbgfaa
