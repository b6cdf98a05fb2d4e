/-
  Roster: one turn of RosterTurns, in plain words.
-/
import Derived.Test.YthjabcogbjdkiaaR
namespace Go.Proofs.Ythjabcogbjdkiaa
set_option linter.unusedVariables false
open Go.ChangeShapes Go.WideShapes Go.ChangeAt Go.RowKit

theorem seat_of {v : Int} {P G : Nat → Int} {n : Nat} {had : Bool} (hm : mayR v P G = true) (hv : v < 1073741824) (hn : n < 8) (hp : decide (0 ≤ P n) = had) : seatR v P G n had = true := by
  unfold seatR
  rw [hm, decide_eq_true hv, decide_eq_true (show (0 : Int) ≤ (n : Int) by omega), decide_eq_true (show (n : Int) < 8 by omega), Int.toNat_natCast, hp]
  simp
/-- The peer has a slot: it may be given back, and then the peer has none. -/
theorem turn_give {v p : Int} {P G : Nat → Int} {n : Nat} (hm : mayR v P G = true) (hv : v < 1073741824) (hp0 : 0 ≤ p) (hn : n < 8) (hp : P n = p) :
    seatR v P G n true = true ∧ ∀ m, m < 8 → updI P n (-1) m ≠ p := by
  refine ⟨seat_of hm hv hn (decide_eq_true (by omega)), fun m hm' => ?_⟩
  by_cases e : m = n
  · subst e; rw [updI_eq]; omega
  · rw [updI_ne _ _ e, ← hp]
    exact fun h => good_apart ((may_iff v P G).1 hm).2 n m hn hm' (fun h => e h.symm) (by omega) h.symm
/-- The peer has none, and one is free: it may be taken. -/
theorem turn_take {v p : Int} {P G : Nat → Int} {q : Nat} (hm : mayR v P G = true) (hv : v < 1073741824) (hp0 : 0 ≤ p) (hp1 : p < 12) (hq : q < 8) (hpq : P q = -1) (hg : G q < 60000) (hno : ∀ n, n < 8 → P n ≠ p) :
    takeR v P G q p = true := by
  unfold takeR
  rw [seat_of hm hv hq (decide_eq_false (by omega)), decide_eq_true hp0, decide_eq_true hp1, (all_ne P p).2 hno, Int.toNat_natCast, decide_eq_true hg]
  rfl
/-- What Of says of one that nobody has, and of one that was given. -/
theorem of_none {v p r : Int} {P G : Nat → Int} (h : OfSpec v P G p r) (hno : ∀ n, n < 8 → P n ≠ p) : r = -1 := by
  rcases h with ⟨rfl, -⟩ | ⟨n, hn, -, h2, -⟩
  · rfl
  · exact absurd h2 (hno n hn)
theorem of_some {v p r : Int} {P G : Nat → Int} {q : Nat} (h : OfSpec v P G p r) (hm : mayR v P G = true) (hp0 : 0 ≤ p) (hq : q < 8) (hpq : P q = p) : r = q := by
  rcases h with ⟨rfl, h1 | h1 | h1⟩ | ⟨n, hn, rfl, h2, -⟩
  · omega
  · rw [hm] at h1; cases h1
  · exact absurd hpq (h1 q hq)
  · by_cases e : n = q
    · rw [e]
    · exact absurd (h2.trans hpq.symm) (good_apart ((may_iff v P G).1 hm).2 n q hn hq e (by omega))
end Go.Proofs.Ythjabcogbjdkiaa
