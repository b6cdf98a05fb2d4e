/-
  Link: the row of open ones; Open.
-/
import Derived.Test.YtfadaakogpbgfaaD
namespace Go.Proofs.Ytfadaakogpbgfaa
set_option linter.unusedVariables false
open Go.ChangeShapes Go.WideShapes Go.ChangeAt Go.RowKit Go.Sort

/-- A row of uint16 from a cell on, with room behind it. -/
structure RowAt (w : World) (g off cap : Nat) (zs : List Int) : Prop where
  le : zs.length ≤ cap
  cell : ∀ j, j < zs.length → w.cell? ⟨g, off + j, none⟩ = some (.int .u16 (zs.getD j 0))
  room : ∀ j, j < cap → (w.cell? ⟨g, off + j, none⟩).isSome = true ∧ w.frozen? ⟨g, off + j, none⟩ = false
def OpenAt (w : World) (R : Nat → Prop) (v : Value) (zs : List Int) : Prop :=
  (v = .slice none 0 0 ∧ zs = []) ∨ ∃ g off cap, v = .slice (some ⟨g, off, none⟩) zs.length cap ∧ R g ∧ g < w.heap.size ∧ RowAt w g off cap zs
theorem RowAt.block {w w' : World} {g off cap : Nat} {zs : List Int} (h : RowAt w g off cap zs) (k : w'.heap[g]? = w.heap[g]?) : RowAt w' g off cap zs := by
  have hc : ∀ o, w'.cell? ⟨g, o, none⟩ = w.cell? ⟨g, o, none⟩ := fun o => World.cell?_of_block (w := w) k
  have hf : ∀ o, w'.frozen? ⟨g, o, none⟩ = w.frozen? ⟨g, o, none⟩ := fun o => World.frozen?_of_block (w := w) k
  exact ⟨h.le, fun j hj => by rw [hc, h.cell j hj], fun j hj => by rw [hc, hf]; exact h.room j hj⟩
theorem openAt_own {w : World} {base n : Nat} {v : Value} {zs : List Int} (h : w.ownsRow base 28 1 v n (zs.map (Value.int .u16))) : OpenAt w (fun k => base ≤ k) v zs := by
  obtain ⟨hl, h | ⟨g, cap, cur, rfl, hb, hg, hn, hm, hs, ht⟩⟩ := h
  · rw [h.2] at hl
    refine Or.inl ⟨h.1, ?_⟩
    simpa using hl
  · have hl' : zs.length = n := by simpa using hl
    subst hl'
    have hlt : g < w.heap.size := by
      rcases Nat.lt_or_ge g w.heap.size with h1 | h1
      · exact h1
      · rw [Array.getElem?_eq_none h1] at hg; simp at hg
    refine Or.inr ⟨g, 0, cap, rfl, hb, hlt, hn, ?_, ?_⟩
    · intro j hj
      have e : cur[j]? = some (Value.int .u16 (zs.getD j 0)) := by
        have := congrArg (fun l => l[j]?) ht
        simp only [Nat.mul_one] at this
        rw [List.getElem?_take_of_lt hj] at this
        rw [← Array.getElem?_toList, this]
        simp [List.getD, List.getElem?_eq_getElem hj]
      simp only [World.cell?, hg, Nat.zero_add]
      simp [e]
    · intro j hj
      have hj' : j < cur.size := by omega
      constructor
      · simp [World.cell?, hg, hj']
      · simp [World.frozen?, hg]
theorem open_any (b : Nat) (nx : Int) (v : Value) (h : Nat) (t : Int) (R : Nat → Prop) (zs : List Int) (hz : zs.length ≤ 100000) (w : World) (a : LinkAt w b nx v h t) (ho : OpenAt w R v zs) :
    Calls Try.prog 17 #[.pointer (some ⟨b, 0, none⟩)] w fun e w' => ∃ v', e = .returned v' ∧ OpenAt w' (fun k => w.heap.size ≤ k) v' zs ∧ Below w.heap.size w w' := by
  obtain ⟨-, c1, -, -, -, -, -, -⟩ := a
  rcases ho with ⟨rfl, rfl⟩ | ⟨g, off, cap, rfl, hlo, hlt, hr⟩
  · go_enter Try.func17, Try.ntmps17
    go_wp2_with (go_at_call 22; refine (clone_nil _ _ _).mono ?_; rintro e w' ⟨rfl, rfl⟩)
    go_ret
    exact ⟨_, rfl, Or.inl ⟨rfl, rfl⟩, Below.refl _ _⟩
  · have HC := Lib.hid hr.cell
    go_enter Try.func17, Try.ntmps17
    go_wp2_with (go_at_call 22; refine (clone_any g off _ cap zs _ rfl (by omega) HC.out).mono ?_; rintro e w' ⟨v', rfl, hown, hnil, hB⟩)
    go_ret
    exact ⟨_, rfl, openAt_own hown, hB⟩
end Go.Proofs.Ytfadaakogpbgfaa
