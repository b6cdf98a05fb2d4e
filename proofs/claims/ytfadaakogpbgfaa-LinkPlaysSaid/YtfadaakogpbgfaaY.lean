/-
  Link: the reference's link in memory: NewLink, Quiet, Stamp.
-/
import Derived.Test.YtfadaakogpbgfaaW
namespace Go.Proofs.Ytfadaakogpbgfaa
set_option linter.unusedVariables false
open Go.ChangeShapes Go.WideShapes Go.ChangeAt Go.RowKit Go.Sort

/-- The reference's link in memory, but its Heard. -/
structure RLinkAt (w : World) (b : Nat) (sr : Int) (v : Value) (t : Int) : Prop where
  c0 : w.cell? ⟨b, 0, none⟩ = some (.int .u16 sr)
  c1 : w.cell? ⟨b, 36, none⟩ = some (.int .i64 t)
  c2 : w.cell? ⟨b, 37, none⟩ = some v
  f0 : w.frozen? ⟨b, 0, none⟩ = false
  f1 : w.frozen? ⟨b, 36, none⟩ = false
  f2 : w.frozen? ⟨b, 37, none⟩ = false
theorem rlinkAt_of {w : World} {b : Nat} {sr : Int} {v : Value} {t : Int} (c0 : w.cell? ⟨b, 0, none⟩ = some (.int .u16 sr)) (c1 : w.cell? ⟨b, 36, none⟩ = some (.int .i64 t)) (c2 : w.cell? ⟨b, 37, none⟩ = some v) (f0 : w.frozen? ⟨b, 0, none⟩ = false) (f1 : w.frozen? ⟨b, 36, none⟩ = false) (f2 : w.frozen? ⟨b, 37, none⟩ = false) : RLinkAt w b sr v t := ⟨c0, c1, c2, f0, f1, f2⟩
theorem RLinkAt.block {w w' : World} {b : Nat} {sr : Int} {v : Value} {t : Int} (a : RLinkAt w b sr v t) (k : w'.heap[b]? = w.heap[b]?) : RLinkAt w' b sr v t := by
  have hc : ∀ o, w'.cell? ⟨b, o, none⟩ = w.cell? ⟨b, o, none⟩ := fun o => World.cell?_of_block (w := w) k
  have hf : ∀ o, w'.frozen? ⟨b, o, none⟩ = w.frozen? ⟨b, o, none⟩ := fun o => World.frozen?_of_block (w := w) k
  exact ⟨by rw [hc, a.c0], by rw [hc, a.c1], by rw [hc, a.c2], by rw [hf, a.f0], by rw [hf, a.f1], by rw [hf, a.f2]⟩
theorem RefAt.block {w w' : World} {b : Nat} {is : Bool} {l : Int} {c : Nat → Bool} (a : RefAt w b is l c) (k : w'.heap[b]? = w.heap[b]?) : RefAt w' b is l c := by
  have hc : ∀ o, w'.cell? ⟨b, o, none⟩ = w.cell? ⟨b, o, none⟩ := fun o => World.cell?_of_block (w := w) k
  have hf : ∀ o, w'.frozen? ⟨b, o, none⟩ = w.frozen? ⟨b, o, none⟩ := fun o => World.frozen?_of_block (w := w) k
  exact ⟨by rw [hc, a.c0], by rw [hc, a.c1], by rw [hf, a.f0], by rw [hf, a.f1], ⟨fun j hj => by rw [hc, a.came.cell j hj], fun j hj => by rw [hf, a.came.frozen j hj]⟩⟩
/-- A store at a cell that is not of the Heard. -/
theorem RefAt.setOut {w : World} {b : Nat} {is : Bool} {l : Int} {c : Nat → Bool} (a : RefAt w b is l c) (o : Nat) (ho : o = 0 ∨ 36 ≤ o) (u : Value) : RefAt (w.setCell ⟨b, o, none⟩ u) b is l c := by
  have hc : ∀ j, 1 ≤ j → j ≤ 35 → (w.setCell ⟨b, o, none⟩ u).cell? ⟨b, j, none⟩ = w.cell? ⟨b, j, none⟩ := fun j h1 h2 => World.cell?_setCell_other _ _ _ _ (by simp only [ne_eq, Addr.mk.injEq, true_and, and_true]; omega)
  refine ⟨by rw [hc 1 (by omega) (by omega), a.c0], by rw [hc 2 (by omega) (by omega), a.c1], by rw [World.frozen?_setCell]; exact a.f0, by rw [World.frozen?_setCell]; exact a.f1, fun j hj => by rw [hc (3 + j) (by omega) (by omega), a.came.cell j hj], fun j hj => by rw [World.frozen?_setCell]; exact a.came.frozen j hj⟩
structure RLk (w : World) (P : Nat → Prop) (b : Nat) (sr t : Int) (is : Bool) (l : Int) (c : Nat → Bool) (zs : List Int) : Prop where
  ex : ∃ v, RLinkAt w b sr v t ∧ OpenAt w (fun k => P k ∧ k ≠ b) v zs
  ref : RefAt w b is l c
  own : P b
  lt : ∀ k, P k → k < w.heap.size
theorem RLk.frame {w w' : World} {P Q : Nat → Prop} {b : Nat} {sr t : Int} {is : Bool} {l : Int} {c : Nat → Bool} {zs : List Int} (o : RLk w Q b sr t is l c zs) (f : Frame P w w') (d : ∀ k, Q k → ¬ P k) : RLk w' Q b sr t is l c zs := by
  obtain ⟨v, hL, hO⟩ := o.ex
  exact ⟨⟨v, hL.block (f.block _ (o.lt _ o.own) (d _ o.own)), hO.frame f (fun k hk => d k hk.1)⟩, o.ref.block (f.block _ (o.lt _ o.own) (d _ o.own)), o.own, fun k hk => Nat.lt_of_lt_of_le (o.lt k hk) f.size⟩
theorem falses_at : ∀ (t : Int) (k : Nat), k < 33 → ([Value.int .u16 0, .bool false, .int .u16 0] ++ List.replicate 33 (Value.bool false) ++ [.int .i64 t, .slice none 0 0])[3 + k]? = some (.bool false) := by
  intro t k hk
  rw [List.getElem?_append_left (by simp; omega), List.getElem?_append_right (by simp), List.getElem?_replicate]
  simp; omega
theorem cell_new (w : World) (xs : Array Value) (T : TypeId) (k : Nat) (v : Value) (h : xs[k]? = some v) : (w.alloc (.cells xs T)).cell? ⟨w.heap.size, k, none⟩ = some v := by
  rw [World.cell?_alloc_new]; exact h
theorem rnew_link (t : Int) (w : World) :
    Calls Try.prog 8 #[.int .i64 t] w fun e w' => e = .returned (.pointer (some ⟨w.heap.size, 0, none⟩)) ∧ RLk w' (fun k => k = w.heap.size) w.heap.size 0 t false 0 (fun _ => false) [] ∧ w'.heap.size = w.heap.size + 1 ∧ Below w.heap.size w w' := by
  go_enter Try.func8, Try.ntmps8
  go_wp2_with fail
  go_ret
  refine ⟨by simp, ⟨⟨_, rlinkAt_of ?_ ?_ ?_ ?_ ?_ ?_, Or.inl ⟨rfl, rfl⟩⟩, ⟨?_, ?_, ?_, ?_, ?_, ?_⟩, rfl, ?_⟩, by simp, (Below.refl _ w).alloc (Nat.le_refl _) _⟩
  all_goals first | (go_light; go_simp; done) | skip
  intro k hk
  have h3 : (#[Value.int .u16 0, .bool false, .int .u16 0] ++ (List.replicate 33 (Value.bool false)).toArray ++ #[.int .i64 t, .slice none 0 0])[3 + k]? = some (.bool false) := by
    have := falses_at t k hk
    simpa using this
  exact cell_new w _ 40 _ _ h3
theorem rquiet_any (b : Nat) (sr : Int) (v : Value) (t now : Int) (w : World) (a : RLinkAt w b sr v t) :
    Calls Try.prog 15 #[.pointer (some ⟨b, 0, none⟩), .int .i64 now] w fun e w' => e = .returned (.int .i64 (quietF t now)) ∧ w = w' := by
  obtain ⟨-, c1, -, -, -, -⟩ := a
  unfold quietF
  by_cases h : now ≤ t
  · have hd : decide (now ≤ t) = true := by simpa using h
    have e : (if now < t then 0 else wrap64 (now - t)) = 0 := by
      by_cases h2 : now < t
      · rw [if_pos h2]
      · rw [if_neg h2, show now - t = 0 by omega]; decide +kernel
    rw [e]
    clear e
    go_enter Try.func15, Try.ntmps15
    go_wp2
    go_ret
    exact ⟨rfl, rfl⟩
  · have hd : decide (now ≤ t) = false := by simpa using h
    rw [if_neg (by omega)]
    go_enter Try.func15, Try.ntmps15
    go_wp2
    go_ret
    exact ⟨rfl, rfl⟩
end Go.Proofs.Ytfadaakogpbgfaa
