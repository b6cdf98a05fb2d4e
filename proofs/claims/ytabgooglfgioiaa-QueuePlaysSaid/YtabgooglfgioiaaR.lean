/-
  Queue: the contracts of the reference's Done, Known and At.
-/
import Derived.Test.YtabgooglfgioiaaQ
namespace Go.Proofs.Ytabgooglfgioiaa
set_option linter.unusedVariables false
open Go.ChangeShapes Go.WideShapes Go.ChangeAt Go.RowKit

def sh {α : Type} (h : Nat → α) (n : Nat) : Nat → α := fun j => if j < n then h (j + 1) else h j
theorem sh_upd (h : Nat → Bool) (n : Nat) : upd (sh h n) n (h (n + 1)) = sh h (n + 1) := by
  funext j
  unfold upd sh
  by_cases e : j = n
  · subst e; simp
  · rw [if_neg e]
    by_cases e2 : j < n
    · rw [if_pos e2, if_pos (by omega)]
    · rw [if_neg e2, if_neg (by omega)]
theorem sh_updI (h : Nat → Int) (n : Nat) : updI (sh h n) n (h (n + 1)) = sh h (n + 1) := by
  funext j
  unfold updI sh
  by_cases e : j = n
  · subst e; simp
  · rw [if_neg e]
    by_cases e2 : j < n
    · rw [if_pos e2, if_pos (by omega)]
    · rw [if_neg e2, if_neg (by omega)]
theorem sh_zero {α : Type} (h : Nat → α) : sh h 0 = h := by funext j; simp [sh]

set_option maxHeartbeats 4000000 in
theorem rdone_any (c : Nat) (f x y z : Int) (hs : Nat → Bool) (X Y Z : Nat → Int) (i j k : Int) (w : World) (h : RAt w c f x y z hs X Y Z) (f0 : 0 ≤ f) (f1 : f ≤ 1000000) :
    Calls Try.prog 16 #[.pointer (some ⟨c, 0, none⟩), .agg #[.int .i8 i, .int .i8 j, .int .u8 k]] w fun e w' => e = .returned (.tuple #[]) ∧ RAt w' c (f + 1) i j k (upd (sh hs 63) 63 false) (updI (sh X 63) 63 0) (updI (sh Y 63) 63 0) (updI (sh Z 63) 63 0) ∧ Kept (fun b => b = c) w w' := by
  have hc := h.lt
  have hh1 := h.setHead (f + 1) i j k
  have hh := hh1.block (Below.heap_alloc _ (Obj.cells #[.int .i8 i, .int .i8 j, .int .u8 k] 24) c (by simpa [World.setCell] using hc))
  have hk : Kept (fun b => b = c) w (((((w.setCell ⟨c, 0, none⟩ (.int .i64 (f + 1))).setCell ⟨c, 1, none⟩ (.int .i8 i)).setCell ⟨c, 2, none⟩ (.int .i8 j)).setCell ⟨c, 3, none⟩ (.int .u8 k)).alloc (Obj.cells #[.int .i8 i, .int .i8 j, .int .u8 k] 24)) := by
    repeat (first | exact Kept.refl _ _ | refine Kept.alloc ?_ _ | refine Kept.setSelf ?_ _)
  have HH := Lib.hid (And.intro hh hk)
  obtain ⟨c0, c1, c2, c3, f0', f1', f2', f3', -, -⟩ := h
  clear hh1 hh hk
  go_enter Try.func16, Try.ntmps16
  go_wp2
  generalize ((((w.setCell ⟨c, 0, none⟩ (.int .i64 (f + 1))).setCell ⟨c, 1, none⟩ (.int .i8 i)).setCell ⟨c, 2, none⟩ (.int .i8 j)).setCell ⟨c, 3, none⟩ (.int .u8 k)).alloc (Obj.cells #[.int .i8 i, .int .i8 j, .int .u8 k] 24) = w1 at HH ⊢
  clear c0 c1 c2 c3 f0' f1' f2' f3'
  go_loopw [4] (fun s4 wr => ∃ n : Nat, n ≤ 63 ∧ s4 = .int .i64 n ∧ RAt wr c (f + 1) i j k (sh hs n) (sh X n) (sh Y n) (sh Z n) ∧ Kept (fun b => b = c) w wr) (fun s4 _ => 63 - (intOf s4).toNat)
  case atStart => exact ⟨0, by omega, rfl, by rw [sh_zero, sh_zero, sh_zero, sh_zero]; exact HH.out.1, HH.out.2⟩
  case round =>
    clear HH
    obtain ⟨n, hn, rfl, hr, hk⟩ := hrel
    by_cases hlt : n < 63
    · have l0 : wr.cell? ⟨c, 4 + (n + 1), none⟩ = some (.bool (hs (n + 1))) := by rw [hr.has.cell (n + 1) (by omega)]; unfold sh; rw [if_neg (by omega)]
      have l1 : wr.cell? ⟨c, 68 + (n + 1) * 3, none⟩ = some (.int .i8 (X (n + 1))) := by rw [hr.ins.x (n + 1) (by omega)]; unfold sh; rw [if_neg (by omega)]
      have l2 : wr.cell? ⟨c, 68 + (n + 1) * 3 + 1, none⟩ = some (.int .i8 (Y (n + 1))) := by rw [hr.ins.y (n + 1) (by omega)]; unfold sh; rw [if_neg (by omega)]
      have l3 : wr.cell? ⟨c, 68 + (n + 1) * 3 + 2, none⟩ = some (.int .u8 (Z (n + 1))) := by rw [hr.ins.z (n + 1) (by omega)]; unfold sh; rw [if_neg (by omega)]
      have r0 := hr.has.cell n (by omega)
      have r1 := hr.has.frozen n (by omega)
      have r2 := hr.ins.x n (by omega)
      have r3 := hr.ins.y n (by omega)
      have r4 := hr.ins.z n (by omega)
      have r5 := hr.ins.f (n * 3) (by omega)
      have r6 := hr.ins.f (n * 3 + 1) (by omega)
      have r7 := hr.ins.f (n * 3 + 2) (by omega)
      rw [← Nat.add_assoc] at r6 r7
      have hr2 := (hr.setBoth n (by omega) (hs (n + 1)) (X (n + 1)) (Y (n + 1)) (Z (n + 1))).drew
      rw [sh_upd, sh_updI, sh_updI, sh_updI] at hr2
      have hk2 : Kept (fun b => b = c) w ((((wr.setCell ⟨c, 4 + n, none⟩ (.bool (hs (n + 1)))).setCell ⟨c, 68 + n * 3, none⟩ (.int .i8 (X (n + 1)))).setCell ⟨c, 68 + n * 3 + 1, none⟩ (.int .i8 (Y (n + 1)))).setCell ⟨c, 68 + n * 3 + 2, none⟩ (.int .u8 (Z (n + 1)))).drew := by repeat (first | exact hk | refine Kept.drew ?_ | refine Kept.setSelf ?_ _)
      have HF := Lib.hid (And.intro hr2 hk2)
      have g0 : (0 : Int) ≤ n := by omega
      have g1 : (n : Int) < 63 := by omega
      clear hr hr2 hk hk2
      go_wp2
      go_region
      all_goals go_wp2
      all_goals go_roundw
      case rel => exact ⟨n + 1, by omega, by go_num, HF.out⟩
      case measure => simp [intOf]; omega
    · obtain rfl : n = 63 := by omega
      have r0 := hr.has.cell 63 (by omega)
      have r1 := hr.has.frozen 63 (by omega)
      have r2 := hr.ins.x 63 (by omega)
      have r3 := hr.ins.y 63 (by omega)
      have r4 := hr.ins.z 63 (by omega)
      have r5 := hr.ins.f (63 * 3) (by omega)
      have r6 := hr.ins.f (63 * 3 + 1) (by omega)
      have r7 := hr.ins.f (63 * 3 + 2) (by omega)
      have hr2 := (hr.setBoth 63 (by omega) false 0 0 0).drew
      have hk2 : Kept (fun b => b = c) w ((((wr.setCell ⟨c, 4 + 63, none⟩ (.bool false)).setCell ⟨c, 68 + 63 * 3, none⟩ (.int .i8 0)).setCell ⟨c, 68 + 63 * 3 + 1, none⟩ (.int .i8 0)).setCell ⟨c, 68 + 63 * 3 + 2, none⟩ (.int .u8 0)).drew := by repeat (first | exact hk | refine Kept.drew ?_ | refine Kept.setSelf ?_ _)
      simp only [Nat.reduceAdd, Nat.reduceMul] at r0 r1 r2 r3 r4 r5 r6 r7 hr2 hk2
      have HF := Lib.hid (And.intro hr2 hk2)
      clear hr hr2 hk hk2
      go_wp2
      go_region
      all_goals go_wp2
      all_goals go_end0
      all_goals exact ⟨rfl, HF.out⟩
end Go.Proofs.Ytabgooglfgioiaa
