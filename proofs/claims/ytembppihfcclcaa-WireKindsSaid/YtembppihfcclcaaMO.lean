/-
  Wire: what Get's deferred closure does; Get's doors.
-/
import Derived.Test.YtembppihfcclcaaMN
namespace Go.Proofs.Ytembppihfcclcaa
set_option linter.unusedVariables false
open Go.ChangeShapes Go.WideShapes Go.ChangeAt Go.RowKit

set_option linter.unusedSimpArgs false
theorem taW_nil (w : World) : (Instr.typeAssert .nilIface 20 76 true).run Try.prog w = .ok (.tuple #[.agg #[], .bool false]) w := by
  simp [Instr.typeAssert, run_underlying Try.underlying76, go_sem]
theorem taW_wrong (w : World) : (Instr.typeAssert (.iface 76 (.agg #[])) 20 76 true).run Try.prog w = .ok (.tuple #[.agg #[], .bool true]) w := by
  simp [Instr.typeAssert, run_underlying Try.underlying76, go_sem]
theorem idle_getW (p q : Addr) (w : World) :
    CallsD Try.prog 41 #[.pointer (some p), .pointer (some q)] .returning w fun e u' w' => e = .returned (.tuple #[]) ∧ u' = .returning ∧ Below w.heap.size w w' := by
  refine callsD_of_wpS Try.func41 rfl fun c₀ cs hu => ?_
  apply wpS_seq
  apply wpS_region
  simp [wpOpsS, go_sem, recoverD, hu, Try.ntmps41, Exit.thenS, taW_nil]
  apply wpS_seq
  apply wpS_region
  simp [wpOpsS, go_sem, Exit.thenS]
  refine wpS_cond (t := false) (by simp [Act.eval, Array.replicate]) ?_
  simp only [Bool.false_eq_true, if_false]
  refine wpS_of_wp (wp_skip ?_)
  have hb := (Below.refl w.heap.size w).alloc (Nat.le_refl _) (Obj.cells #[] 76)
  cases c₀
  simp_all [bodyPostS, results, Try.results41]
/-- The zero message, as a row of cells. -/
def zF : Nat → Int := fun _ => 0
def zL : List Value := msgL zF (.slice none 0 0) (.slice none 0 0) (.slice none 0 0)
theorem zL_one : zL.toArray.all (·.oneCell') = true := nil_one zF
theorem build_msg0 (w : World) : (Instr.build 30 #[]).run Try.prog w = .ok (.agg zL.toArray) w := by kernel_rfl
theorem catch_getW (t2 t3 B : Nat) (w : World) (h2 : w.there t2 0 16) (x : Int) (c3 : w.cell? ⟨t3, 0, none⟩ = some (.int .i64 x)) (f3 : w.frozen? ⟨t3, 0, none⟩ = false) (hne : t2 ≠ t3) (hB2 : B ≤ t2) (hB3 : B ≤ t3) :
    CallsD Try.prog 41 #[.pointer (some ⟨t2, 0, none⟩), .pointer (some ⟨t3, 0, none⟩)] (.panicking wrongW) w fun e u' w' => e = .returned (.tuple #[]) ∧ u' = .panicking [{ v := .iface 76 (.agg #[]), recovered := true }] ∧
      (MsgAt w' t2 zF (.slice none 0 0) (.slice none 0 0) (.slice none 0 0) ∧ w'.cell? ⟨t3, 0, none⟩ = some (.int .i64 2) ∧ Below B w w') := by
  refine callsD_of_wpS Try.func41 rfl fun c₀ cs hu => ?_
  unfold wrongW at hu
  apply wpS_seq
  apply wpS_region
  simp [wpOpsS, go_sem, recoverD, hu, Try.ntmps41, Exit.thenS, taW_wrong]
  apply wpS_seq
  apply wpS_region
  simp [wpOpsS, go_sem, Exit.thenS]
  refine wpS_cond (t := true) (by simp [Act.eval, Array.replicate]) ?_
  simp only [if_true]
  refine wpS_of_wp ?_
  have hz1 : w.heap.size ≤ (w.alloc (Obj.cells #[] 76)).heap.size := by simp
  have h2' : (w.alloc (Obj.cells #[] 76)).there t2 0 16 := there_block h2 (Below.heap_alloc w _ t2 (there_lt h2))
  have c3a : (w.alloc (Obj.cells #[] 76)).cell? ⟨t3, 0, none⟩ = some (.int .i64 x) := (World.cell?_of_block (Below.heap_alloc w _ t3 (block_of_cell c3))).trans c3
  have f3a : (w.alloc (Obj.cells #[] 76)).frozen? ⟨t3, 0, none⟩ = false := (World.frozen?_of_block (Below.heap_alloc w _ t3 (block_of_cell c3))).trans f3
  have hb1 := (Below.refl B w).alloc (Nat.le_trans hB2 (Nat.le_of_lt (there_lt h2))) (Obj.cells #[] 76)
  have hat := msgAt_stored h2' zF (.slice none 0 0) (.slice none 0 0) (.slice none 0 0)
  have hbl := below_setCells t2 hB2 zL 0 hb1
  have hoth : ((w.alloc (Obj.cells #[] 76)).setCells t2 0 zL).heap[t3]? = (w.alloc (Obj.cells #[] 76)).heap[t3]? := setCells_other t2 t3 (fun e => hne e.symm) _ _ _
  have H2 : Hid ((w.alloc (Obj.cells #[] 76)).there t2 0 zL.toArray.size) := Lib.hid (by
    have e : zL.toArray.size = 16 := by unfold zL; rw [List.size_toArray, msgL_len]
    rw [e]; exact h2')
  have hat' : MsgAt ((w.alloc (Obj.cells #[] 76)).setCells t2 0 zL) t2 zF (.slice none 0 0) (.slice none 0 0) (.slice none 0 0) := hat
  clear hat
  generalize hw2 : (w.alloc (Obj.cells #[] 76)).setCells t2 0 zL = w2 at *
  have HW := Lib.hid hw2
  have c3b : w2.cell? ⟨t3, 0, none⟩ = some (.int .i64 x) := (World.cell?_of_block hoth).trans c3a
  have f3b : w2.frozen? ⟨t3, 0, none⟩ = false := (World.frozen?_of_block hoth).trans f3a
  have HAT := Lib.hid (hat'.block (w' := w2.setCell ⟨t3, 0, none⟩ (.int .i64 2)) (Below.heap_setCell _ _ _ _ (by show t2 ≠ t3; exact hne)))
  have HC3 := Lib.hid (World.cell?_setCell_same w2 ⟨t3, 0, none⟩ (.int .i64 2) c3b)
  have HBL := Lib.hid (hbl.setCell (p := ⟨t3, 0, none⟩) hB3 (.int .i64 2))
  have hbd := build_msg0
  clear hat' hbl hoth h2 h2' c3 f3 c3a f3a hb1 hz1 hw2
  go_wp2_with (refine wpList_store_mid rfl 30 _ _ rfl t2 0 zL.toArray rfl rfl H2.out (by have e : zL.toArray.size = zL.length := List.size_toArray; rw [e]; exact size_msg _ _ _ _) zL_one ?_; rw [show zL.toArray.toList = zL from rfl, HW.out])
  simp [bodyPostS, results, Try.results41]
  exact ⟨HAT.out, HC3.out, HBL.out⟩
end Go.Proofs.Ytembppihfcclcaa
