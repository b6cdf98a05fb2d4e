/-
  Link: Hear at a row.
-/
import Derived.Test.YtfadaakogpbgfaaL
import Derived.Lib.OwnBridge
namespace Go.Proofs.Ytfadaakogpbgfaa
set_option linter.unusedVariables false
open Go.Shelf Go.RowKit Go.Lib Go.Sort

theorem del_row (a k : Int) (B1 B2 g cap : Nat) (zs : List Int) (w : World) (h1 : B1 < w.heap.size) (h2 : B2 < w.heap.size) (n1 : B1 ≠ g) (n2 : B2 ≠ g) (c1 : w.cell? ⟨B1, 0, none⟩ = some (.int .u16 a)) (c2 : w.cell? ⟨B2, 0, none⟩ = some (.int .u32 k))
    (hR : RowAt w g 0 cap zs) (hz : zs.length ≤ 100000) :
    Calls Try.prog 21 #[.slice (some ⟨g, 0, none⟩) zs.length cap, .func (.func 23) #[] #[.pointer (some ⟨B1, 0, none⟩), .pointer (some ⟨B2, 0, none⟩)]] w fun e w' => e = .returned (.slice (some ⟨g, 0, none⟩) (zs.filter fun x => !toldF x a k).length cap) ∧ RowAt w' g 0 cap (zs.filter fun x => !toldF x a k) ∧ Below g w w' := by
  have hH : Holds (Value.int .u16) w g 0 zs.toArray := by
    intro j hj
    have hj' : j < zs.length := by simpa using hj
    refine ⟨?_, (hR.room j (by have := hR.le; omega)).2⟩
    rw [hR.cell j hj']
    simp [List.getD, getElem!_pos, hj']
  refine (del_any a k B1 B2 g 0 cap zs.toArray w h1 h2 n1 n2 c1 c2 hH (by simp; omega) (by simpa using hR.le)).mono ?_
  rintro e w' ⟨rfl, q, rfl⟩
  have hfl : (zs.filter fun x => !toldF x a k).length ≤ zs.length := List.length_filter_le _ _
  refine ⟨by simp, ⟨?_, ?_, ?_⟩, below_putRow (Below.refl g w) (Nat.le_refl _)⟩
  · have := hR.le; omega
  · intro j hj
    rw [cell?_putRow (Value.int .u16) (Sort.ahead w q) g 0 zs.toArray _ hH (by simp; omega) j (by simp; omega)]
    simp [List.getD, List.getElem?_eq_getElem hj, List.getElem?_append_left hj]
  · intro j hj
    refine ⟨?_, by simpa using (hR.room j hj).2⟩
    by_cases hjn : j < zs.length
    · rw [cell?_putRow (Value.int .u16) (Sort.ahead w q) g 0 zs.toArray _ hH (by simp; omega) j (by simp; omega)]
      rfl
    · rw [cell?_putRow_other _ _ _ _ _ _ (Or.inr (Or.inr (by simp; omega)))]
      exact (hR.room j hj).1
theorem rowAt_own {w : World} {base n : Nat} {v : Value} {zs : List Int} (h : w.ownsRow base 28 1 v n (zs.map (Value.int .u16))) (hne : v ≠ .slice none 0 0) : ∃ g cap, v = .slice (some ⟨g, 0, none⟩) zs.length cap ∧ base ≤ g ∧ g < w.heap.size ∧ RowAt w g 0 cap zs := by
  obtain ⟨hl, h | ⟨g, cap, cur, rfl, hb, hg, hn, hm, hs, ht⟩⟩ := h
  · exact absurd h.1 hne
  · have hl' : zs.length = n := by simpa using hl
    subst hl'
    have hlt : g < w.heap.size := by
      rcases Nat.lt_or_ge g w.heap.size with h1 | h1
      · exact h1
      · rw [Array.getElem?_eq_none h1] at hg; simp at hg
    refine ⟨g, cap, rfl, hb, hlt, hn, ?_, ?_⟩
    · intro j hj
      have e : cur[j]? = some (Value.int .u16 (zs.getD j 0)) := by
        have := congrArg (fun l => l[j]?) ht
        simp only [Nat.mul_one] at this
        rw [List.getElem?_take_of_lt hj] at this
        rw [← Array.getElem?_toList, this]
        simp [List.getD, List.getElem?_eq_getElem hj]
      simp only [World.cell?, hg, Nat.zero_add]
      simp [e]
    · intro j hj
      have hj' : j < cur.size := by omega
      constructor
      · simp [World.cell?, hg, hj']
      · simp [World.frozen?, hg]
end Go.Proofs.Ytfadaakogpbgfaa
