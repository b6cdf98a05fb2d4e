/-
  Roster: Of and Free hand back one value, whatever the world.
-/
import Derived.Test.YthjabcogbjdkiaaQ
namespace Go.Proofs.Ythjabcogbjdkiaa
set_option linter.unusedVariables false
open Go.ChangeShapes Go.WideShapes Go.ChangeAt Go.RowKit

theorem least (p : Nat → Prop) (m : Nat) (h : ∃ n, n < m ∧ p n) : ∃ n, n < m ∧ p n ∧ ∀ k, k < n → ¬ p k := by
  obtain ⟨n, hn, hp⟩ := h
  induction n using Nat.strongRecOn with
  | _ n ih =>
    by_cases hk : ∃ k, k < n ∧ p k
    · obtain ⟨k, hk1, hk2⟩ := hk
      exact ih k hk1 (by omega) hk2
    · exact ⟨n, hn, hp, fun k hk1 hk2 => hk ⟨k, hk1, hk2⟩⟩
theorem of_unique {v peer r r' : Int} {P G : Nat → Int} (h : OfSpec v P G peer r) (h' : OfSpec v P G peer r') : r = r' := by
  rcases h with ⟨rfl, h1⟩ | ⟨n, hn, rfl, h2, h3, h4, h5⟩ <;> rcases h' with ⟨rfl, g1⟩ | ⟨m, hm, rfl, g2, g3, g4, g5⟩
  · rfl
  · rcases h1 with h1 | h1 | h1
    · omega
    · rw [g4] at h1; cases h1
    · exact absurd g2 (h1 m hm)
  · rcases g1 with g1 | g1 | g1
    · omega
    · rw [h4] at g1; cases g1
    · exact absurd h2 (g1 n hn)
  · rcases Nat.lt_trichotomy n m with h | h | h
    · exact absurd h2 (g5 n h)
    · rw [h]
    · exact absurd g2 (h5 m h)
theorem of_exists (v peer : Int) (P G : Nat → Int) : ∃ r, OfSpec v P G peer r := by
  by_cases h1 : peer < 0
  · exact ⟨-1, Or.inl ⟨rfl, Or.inl h1⟩⟩
  cases hm : mayR v P G with
  | false => exact ⟨-1, Or.inl ⟨rfl, Or.inr (Or.inl hm)⟩⟩
  | true =>
    by_cases h2 : ∃ n, n < 8 ∧ P n = peer
    · obtain ⟨n, hn, hp, hl⟩ := least (fun n => P n = peer) 8 h2
      exact ⟨n, Or.inr ⟨n, hn, rfl, hp, by omega, hm, hl⟩⟩
    · exact ⟨-1, Or.inl ⟨rfl, Or.inr (Or.inr fun n hn hp => h2 ⟨n, hn, hp⟩)⟩⟩
theorem of_det (v peer : Int) (P G : Nat → Int) : ∃ r, OfSpec v P G peer r ∧ ∀ w, Calls Try.prog 7 #[.agg (rosL v P G).toArray, .int .i64 peer] w fun e w' => e = .returned (.int .i64 r) ∧ Below w.heap.size w w' := by
  obtain ⟨r, hr⟩ := of_exists v peer P G
  refine ⟨r, hr, fun w => ?_⟩
  refine (of_v v peer P G w).mono ?_
  rintro e w' ⟨⟨r', rfl, hr'⟩, hb⟩
  exact ⟨by rw [of_unique hr' hr], hb⟩
theorem freeN_unique {P G : Nat → Int} {r r' : Int} (h : FreeN P G 8 r) (h' : FreeN P G 8 r') : r = r' := by
  rcases h with ⟨rfl, h1⟩ | ⟨q, a1, rfl, a3, a4, a5, a6⟩ <;> rcases h' with ⟨rfl, g1⟩ | ⟨m, b1, rfl, b3, b4, b5, b6⟩
  · rfl
  · have := h1 m b1 b3; omega
  · have := g1 q a1 a3; omega
  · rcases Nat.lt_trichotomy q m with h | h | h
    · have e1 := b6 q h a3 a4
      have e2 := a5 m b1 b3 b4
      omega
    · rw [h]
    · have e1 := a6 m h b3 b4
      have e2 := b5 q a1 a3 a4
      omega
theorem freeN_exists (P G : Nat → Int) : ∀ n, ∃ r, FreeN P G n r := by
  intro n
  induction n with
  | zero => exact ⟨-1, Or.inl ⟨rfl, fun m hm => by omega⟩⟩
  | succ n ih =>
    obtain ⟨r, hr⟩ := ih
    by_cases hp : P n = -1
    · by_cases hg : G n < 60000
      · have hr' := hr
        rcases hr with ⟨rfl, h⟩ | ⟨q, h1, rfl, h3, h4, h5, h6⟩
        · exact ⟨n, freeN_take hr' hp hg (Or.inl rfl)⟩
        · by_cases hlt : G n < G q
          · exact ⟨n, freeN_take hr' hp hg (Or.inr ⟨q, rfl, hlt⟩)⟩
          · exact ⟨q, freeN_no hr' (fun _ => Or.inr ⟨q, rfl, by omega⟩)⟩
      · exact ⟨r, freeN_no hr (fun _ => Or.inl (by omega))⟩
    · exact ⟨r, freeN_no hr (fun h => absurd h hp)⟩
theorem free_det (v : Int) (P G : Nat → Int) (hm : mayR v P G = true) : ∃ r, FreeN P G 8 r ∧ ∀ w, Calls Try.prog 8 #[.agg (rosL v P G).toArray] w fun e w' => e = .returned (.int .i64 r) ∧ Below w.heap.size w w' := by
  obtain ⟨r, hr⟩ := freeN_exists P G 8
  refine ⟨r, hr, fun w => ?_⟩
  refine (free_any v P G w).mono ?_
  rintro e w' ⟨⟨r', rfl, hr'⟩, hb⟩
  refine ⟨?_, hb⟩
  rcases hr' with ⟨h, -⟩ | ⟨-, h⟩
  · rw [hm] at h; cases h
  · rw [freeN_unique h hr]
end Go.Proofs.Ythjabcogbjdkiaa
