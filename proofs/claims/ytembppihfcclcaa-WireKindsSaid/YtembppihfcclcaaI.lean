/-
  Entry: what Get's deferred closure does.
-/
import Derived.Test.YtembppihfcclcaaH
namespace Go.Proofs.Ytembppihfcclcaa
set_option linter.unusedVariables false
open Go.ChangeShapes Go.WideShapes Go.ChangeAt Go.RowKit

theorem ta_nil (w : World) : (Instr.typeAssert .nilIface 20 103 true).run Try.prog w = .ok (.tuple #[.agg #[], .bool false]) w := by
  simp [Instr.typeAssert, run_underlying Try.underlying103, go_sem]
theorem ta_wrong (w : World) : (Instr.typeAssert (.iface 103 (.agg #[])) 20 103 true).run Try.prog w = .ok (.tuple #[.agg #[], .bool true]) w := by
  simp [Instr.typeAssert, run_underlying Try.underlying103, go_sem]
theorem idle_get (p q : Addr) (w : World) :
    CallsD Try.prog 68 #[.pointer (some p), .pointer (some q)] .returning w fun e u' w' => e = .returned (.tuple #[]) ∧ u' = .returning ∧ Below w.heap.size w w' := by
  refine callsD_of_wpS Try.func68 rfl fun c₀ cs hu => ?_
  apply wpS_seq
  apply wpS_region
  simp [wpOpsS, go_sem, recoverD, hu, Try.ntmps68, Exit.thenS, ta_nil]
  apply wpS_seq
  apply wpS_region
  simp [wpOpsS, go_sem, Exit.thenS]
  refine wpS_cond (t := false) (by simp [Act.eval, Array.replicate]) ?_
  simp only [Bool.false_eq_true, if_false]
  refine wpS_of_wp (wp_skip ?_)
  have hb := (Below.refl w.heap.size w).alloc (Nat.le_refl _) (Obj.cells #[] 103)
  cases c₀
  simp_all [bodyPostS, results, Try.results68]
theorem there_block {w w' : World} {b o n : Nat} (h : w.there b o n) (k : w'.heap[b]? = w.heap[b]?) : w'.there b o n := fun j hj => by
  have h' := h j hj
  rw [World.cell?_of_block (a := ⟨b, o + j, none⟩) k, World.frozen?_of_block (a := ⟨b, o + j, none⟩) k]
  exact h'
theorem there_lt {w : World} {b o n : Nat} (h : w.there b o (n + 1)) : b < w.heap.size := by
  have h' := (h 0 (by omega)).1
  obtain ⟨v, hv⟩ := Option.isSome_iff_exists.1 h'
  exact block_of_cell hv
theorem store_ent_old (fr : Int) (a : Option Addr) (n c : Nat) (I : Nat → Int) (w : World) (b : Nat) (ht : w.there b 0 26) :
    (storeCells ⟨b, 0, none⟩ (entL fr (.slice a n c) I)).run Try.prog w = .ok () (w.setCells b 0 (entL fr (.slice a n c) I)) := by
  have := run_storeCells_cells (P := Try.prog) b 0 (entL fr (.slice a n c) I) 0 w (fun j hj => by rw [entL_len] at hj; simpa using (ht j hj).1) (fun j hj => by rw [entL_len] at hj; simpa using (ht j hj).2)
    (fun x hx => (Array.all_eq_true_iff_forall_mem.1 (entL_one fr a n c I)) x (by simpa using hx))
  simpa using this
theorem entAt_stored {w : World} {b : Nat} (h : w.there b 0 26) (fr : Int) (sv : Value) (I : Nat → Int) : EntAt (w.setCells b 0 (entL fr sv I)) b 0 fr sv I := by
  constructor
  intro k hk
  exact World.rangeAt_setCells_same w b 0 (entL fr sv I) (by rw [entL_len]; exact h) k _ (entL_get _ _ _ _ hk)
theorem there_setCells {w : World} {b : Nat} (h : w.there b 0 26) (fr : Int) (sv : Value) (I : Nat → Int) : (w.setCells b 0 (entL fr sv I)).there b 0 26 := fun j hj => by
  have h1 := (entAt_stored h fr sv I).cell j hj
  refine ⟨by rw [h1]; rfl, ?_⟩
  rw [World.frozen?_setCells]
  exact (h j hj).2
theorem below_setCells {B : Nat} {a : World} (b : Nat) (hb : B ≤ b) : ∀ (vs : List Value) (o : Nat) {w : World}, Below B a w → Below B a (w.setCells b o vs)
  | [], _, _, h => h
  | v :: r, o, w, h => by
    rw [World.setCells]
    exact below_setCells b hb r (o + 1) (h.setCell hb v)
theorem setCells_other (b k : Nat) (hk : k ≠ b) : ∀ (vs : List Value) (o : Nat) (w : World), (w.setCells b o vs).heap[k]? = w.heap[k]?
  | [], _, _ => rfl
  | v :: r, o, w => by
    rw [World.setCells, setCells_other b k hk r (o + 1)]
    exact Below.heap_setCell _ _ _ _ hk
theorem catch_get (t2 t3 B : Nat) (w : World) (h2 : w.there t2 0 26) (x : Int) (c3 : w.cell? ⟨t3, 0, none⟩ = some (.int .i64 x)) (f3 : w.frozen? ⟨t3, 0, none⟩ = false) (hne : t2 ≠ t3) (hB2 : B ≤ t2) (hB3 : B ≤ t3) :
    CallsD Try.prog 68 #[.pointer (some ⟨t2, 0, none⟩), .pointer (some ⟨t3, 0, none⟩)] (.panicking wrongP) w fun e u' w' => e = .returned (.tuple #[]) ∧ u' = .panicking [{ v := .iface 103 (.agg #[]), recovered := true }] ∧
      (EntAt w' t2 0 0 (.slice none 0 0) (fun _ => 0) ∧ w'.cell? ⟨t3, 0, none⟩ = some (.int .i64 2) ∧ Below B w w') := by
  refine callsD_of_wpS Try.func68 rfl fun c₀ cs hu => ?_
  unfold wrongP at hu
  apply wpS_seq
  apply wpS_region
  simp [wpOpsS, go_sem, recoverD, hu, Try.ntmps68, Exit.thenS, ta_wrong]
  apply wpS_seq
  apply wpS_region
  simp [wpOpsS, go_sem, Exit.thenS]
  refine wpS_cond (t := true) (by simp [Act.eval, Array.replicate]) ?_
  simp only [if_true]
  refine wpS_of_wp ?_
  have hz1 : w.heap.size ≤ (w.alloc (Obj.cells #[] 103)).heap.size := by simp
  have h2' : (w.alloc (Obj.cells #[] 103)).there t2 0 26 := there_block h2 (Below.heap_alloc w _ t2 (there_lt h2))
  have c3a : (w.alloc (Obj.cells #[] 103)).cell? ⟨t3, 0, none⟩ = some (.int .i64 x) := (World.cell?_of_block (Below.heap_alloc w _ t3 (block_of_cell c3))).trans c3
  have f3a : (w.alloc (Obj.cells #[] 103)).frozen? ⟨t3, 0, none⟩ = false := (World.frozen?_of_block (Below.heap_alloc w _ t3 (block_of_cell c3))).trans f3
  have hb1 := (Below.refl B w).alloc (Nat.le_trans hB2 (Nat.le_of_lt (there_lt h2))) (Obj.cells #[] 103)
  have hat := entAt_stored h2' 0 (.slice none 0 0) (fun _ => 0)
  have hbl := below_setCells t2 hB2 (entL 0 (.slice none 0 0) (fun _ => 0)) 0 hb1
  have hoth : ((w.alloc (Obj.cells #[] 103)).setCells t2 0 (entL 0 (.slice none 0 0) (fun _ => 0))).heap[t3]? = (w.alloc (Obj.cells #[] 103)).heap[t3]? := setCells_other t2 t3 (fun e => hne e.symm) _ _ _
  have H2 := Lib.hid h2'
  obtain ⟨w2, hw2⟩ : ∃ w2, w2 = (w.alloc (Obj.cells #[] 103)).setCells t2 0 (entL 0 (.slice none 0 0) (fun _ => 0)) := ⟨_, rfl⟩
  rw [← hw2] at hat hbl hoth
  have HW := Lib.hid hw2
  have c3b : w2.cell? ⟨t3, 0, none⟩ = some (.int .i64 x) := (World.cell?_of_block hoth).trans c3a
  have f3b : w2.frozen? ⟨t3, 0, none⟩ = false := (World.frozen?_of_block hoth).trans f3a
  have HAT := Lib.hid (hat.block (w' := w2.setCell ⟨t3, 0, none⟩ (.int .i64 2)) (Below.heap_setCell _ _ _ _ (by show t2 ≠ t3; exact hne)))
  have HC3 := Lib.hid (World.cell?_setCell_same w2 ⟨t3, 0, none⟩ (.int .i64 2) c3b)
  have HBL := Lib.hid (hbl.setCell (p := ⟨t3, 0, none⟩) hB3 (.int .i64 2))
  clear hat hbl hoth h2 h2' c3 f3 c3a f3a hb1 hz1 hw2
  go_wp2_with (refine wpList_store_mid rfl 37 _ _ rfl t2 0 (entL 0 (.slice none 0 0) (fun _ => 0)).toArray rfl rfl (by rw [List.size_toArray, entL_len]; exact H2.out) (by rw [List.size_toArray]; exact size_ent _ _ _) (entL_one 0 none 0 0 _) ?_; rw [show (entL 0 (.slice none 0 0) (fun _ => 0)).toArray.toList = entL 0 (.slice none 0 0) (fun _ => 0) from rfl, ← HW.out])
  simp [bodyPostS, results, Try.results68]
  exact ⟨HAT.out, HC3.out, HBL.out⟩
end Go.Proofs.Ytembppihfcclcaa
