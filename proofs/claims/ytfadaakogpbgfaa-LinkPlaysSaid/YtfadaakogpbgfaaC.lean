/-
  Link: a Link in memory; New and Quiet.
-/
import Derived.Test.YtfadaakogpbgfaaB
import Derived.Lib.QuietBelow
namespace Go.Proofs.Ytfadaakogpbgfaa
set_option linter.unusedVariables false
open Go.ChangeShapes Go.WideShapes Go.ChangeAt Go.RowKit Go.Sort

/-- A Link in memory. -/
structure LinkAt (w : World) (b : Nat) (nx : Int) (v : Value) (h : Nat) (t : Int) : Prop where
  c0 : w.cell? ⟨b, 0, none⟩ = some (.int .u16 nx)
  c1 : w.cell? ⟨b, 1, none⟩ = some v
  c2 : w.cell? ⟨b, 2, none⟩ = some (.pointer (some ⟨h, 0, none⟩))
  c3 : w.cell? ⟨b, 3, none⟩ = some (.int .i64 t)
  f0 : w.frozen? ⟨b, 0, none⟩ = false
  f1 : w.frozen? ⟨b, 1, none⟩ = false
  f2 : w.frozen? ⟨b, 2, none⟩ = false
  f3 : w.frozen? ⟨b, 3, none⟩ = false
theorem block_of_cell {w : World} {b o : Nat} {v : Value} (h : w.cell? ⟨b, o, none⟩ = some v) : b < w.heap.size := by
  simp only [World.cell?] at h
  rcases Nat.lt_or_ge b w.heap.size with h1 | h1
  · exact h1
  · rw [Array.getElem?_eq_none h1] at h
    simp at h
theorem LinkAt.block {w w' : World} {b : Nat} {nx : Int} {v : Value} {h : Nat} {t : Int} (a : LinkAt w b nx v h t) (k : w'.heap[b]? = w.heap[b]?) : LinkAt w' b nx v h t := by
  have hc : ∀ o, w'.cell? ⟨b, o, none⟩ = w.cell? ⟨b, o, none⟩ := fun o => World.cell?_of_block (w := w) k
  have hf : ∀ o, w'.frozen? ⟨b, o, none⟩ = w.frozen? ⟨b, o, none⟩ := fun o => World.frozen?_of_block (w := w) k
  exact ⟨by rw [hc, a.c0], by rw [hc, a.c1], by rw [hc, a.c2], by rw [hc, a.c3], by rw [hf, a.f0], by rw [hf, a.f1], by rw [hf, a.f2], by rw [hf, a.f3]⟩
theorem quiet_lt (b : Nat) (nx : Int) (v : Value) (h : Nat) (t now : Int) (hn : decide (now < t) = true) (w : World) (a : LinkAt w b nx v h t) :
    Calls Try.prog 14 #[.pointer (some ⟨b, 0, none⟩), .int .i64 now] w fun e w' => e = .returned (.int .i64 0) ∧ w = w' := by
  obtain ⟨-, -, -, c3, -, -, -, -⟩ := a
  go_enter Try.func14, Try.ntmps14
  go_wp2
  go_ret
  exact ⟨rfl, rfl⟩
theorem quiet_ge (b : Nat) (nx : Int) (v : Value) (h : Nat) (t now : Int) (hn : decide (now < t) = false) (w : World) (a : LinkAt w b nx v h t) :
    Calls Try.prog 14 #[.pointer (some ⟨b, 0, none⟩), .int .i64 now] w fun e w' => e = .returned (.int .i64 (wrap64 (now - t))) ∧ w = w' := by
  obtain ⟨-, -, -, c3, -, -, -, -⟩ := a
  go_enter Try.func14, Try.ntmps14
  go_wp2
  go_ret
  exact ⟨rfl, rfl⟩
theorem quiet_nil (now : Int) (w : World) :
    Calls Try.prog 14 #[.pointer none, .int .i64 now] w fun e w' => e = .returned (.int .i64 0) ∧ w = w' := by
  go_enter Try.func14, Try.ntmps14
  go_wp2
  go_ret
  exact ⟨rfl, rfl⟩
theorem stamp_nil (w : World) :
    Calls Try.prog 10 #[.pointer none] w fun e w' => e = .returned (.tuple #[.int .u16 0, .int .u16 0, .int .u32 0]) ∧ w = w' := by
  go_enter Try.func10, Try.ntmps10
  go_wp2
  go_ret3
  exact ⟨rfl, rfl⟩
theorem open_nil (w : World) :
    Calls Try.prog 17 #[.pointer none] w fun e w' => e = .returned (.slice none 0 0) ∧ w = w' := by
  go_enter Try.func17, Try.ntmps17
  go_wp2
  go_ret
  exact ⟨rfl, rfl⟩
theorem hear_nil (now s a k : Int) (w : World) :
    Calls Try.prog 12 #[.pointer none, .int .i64 now, .int .u16 s, .int .u16 a, .int .u32 k] w fun e w' => e = .returned (.bool false) ∧ Below w.heap.size w w' := by
  go_enter Try.func12, Try.ntmps12
  go_wp2
  go_ret
  exact ⟨rfl, ((Below.refl _ w).alloc (Nat.le_refl _) _).alloc (by simp) _⟩
theorem linkAt_of {w : World} {b : Nat} {nx : Int} {v : Value} {h : Nat} {t : Int} (c0 : w.cell? ⟨b, 0, none⟩ = some (.int .u16 nx)) (c1 : w.cell? ⟨b, 1, none⟩ = some v) (c2 : w.cell? ⟨b, 2, none⟩ = some (.pointer (some ⟨h, 0, none⟩))) (c3 : w.cell? ⟨b, 3, none⟩ = some (.int .i64 t)) (f0 : w.frozen? ⟨b, 0, none⟩ = false) (f1 : w.frozen? ⟨b, 1, none⟩ = false) (f2 : w.frozen? ⟨b, 2, none⟩ = false) (f3 : w.frozen? ⟨b, 3, none⟩ = false) : LinkAt w b nx v h t := ⟨c0, c1, c2, c3, f0, f1, f2, f3⟩
theorem new_link (t : Int) (w : World) :
    Calls Try.prog 7 #[.int .i64 t] w fun e w' => e = .returned (.pointer (some ⟨w.heap.size + 1, 0, none⟩)) ∧ LinkAt w' (w.heap.size + 1) 1 (.slice none 0 0) w.heap.size t ∧ HeardAt w' w.heap.size false 0 (0 : Nat) ∧ w'.heap.size = w.heap.size + 2 ∧ Below w.heap.size w w' := by
  go_enter Try.func7, Try.ntmps7
  go_wp2_with (go_at_call 18; refine (new_any _).mono ?_; rintro e w1 ⟨rfl, rfl⟩)
  go_ret
  refine ⟨by simp, linkAt_of ?_ ?_ ?_ ?_ ?_ ?_ ?_ ?_, heardAt_of ?_ ?_ ?_ ?_ ?_ ?_, by simp, ((Below.refl _ w).alloc (Nat.le_refl _) _).alloc (by simp) _⟩
  all_goals go_light
  all_goals go_simp
end Go.Proofs.Ytfadaakogpbgfaa
