/-
  Roster: which rosters may be; Take and Give keep that.
-/
import Derived.Test.YthjabcogbjdkiaaL
namespace Go.Proofs.Ythjabcogbjdkiaa
set_option linter.unusedVariables false
open Go.ChangeShapes Go.WideShapes Go.ChangeAt Go.RowKit

theorem bitP_bit (q p : Int) (hq : -1 ≤ q) (hp : 0 ≤ p) : (bitP q).testBit (p + 1).toNat = decide (q = p) := by
  unfold bitP
  by_cases h : q = -1
  · rw [if_pos h, Nat.zero_testBit]
    symm; rw [decide_eq_false_iff_not]; omega
  · rw [if_neg h, Nat.testBit_two_pow, decide_eq_decide]; omega
theorem mask_bit (P : Nat → Int) (p : Int) (hp : 0 ≤ p) : ∀ n, (∀ m, m < n → -1 ≤ P m) → ((mask P n).testBit (p + 1).toNat = false ↔ ∀ m, m < n → P m ≠ p) := by
  intro n
  induction n with
  | zero => intro _; exact ⟨fun _ m hm => by omega, fun _ => Nat.zero_testBit _⟩
  | succ n ih =>
    intro h
    have ih := ih (fun m hm => h m (by omega))
    show ((mask P n ||| bitP (P n)).testBit _ = false) ↔ _
    rw [Nat.testBit_or, Bool.or_eq_false_iff, ih, bitP_bit _ _ (h n (by omega)) hp, decide_eq_false_iff_not]
    constructor
    · rintro ⟨h1, h2⟩ m hm
      by_cases e : m = n
      · subst e; exact h2
      · exact h1 m (by omega)
    · intro h1
      exact ⟨fun m hm => h1 m (by omega), h1 n (by omega)⟩
def Good (P G : Nat → Int) (i : Nat) : Prop := (-1 ≤ P i ∧ P i < 12 ∧ 0 ≤ G i ∧ G i ≤ 60000) ∧ (0 ≤ P i → G i ≠ 0 ∧ ∀ m, m < i → P m ≠ P i)
theorem bad_iff (P G : Nat → Int) (i : Nat) (h : ∀ m, m < i → -1 ≤ P m) : badSeat (P i) (G i) (mask P i) = false ↔ Good P G i := by
  unfold badSeat wrongSeat Good
  simp only [Bool.or_eq_false_iff, decide_eq_false_iff_not, Bool.and_eq_false_imp, decide_eq_true_eq, beq_eq_false_iff_ne, ne_eq]
  constructor
  · rintro ⟨⟨⟨⟨h1, h2⟩, h3⟩, h4⟩, h5⟩
    refine ⟨⟨by omega, by omega, by omega, by omega⟩, fun hp => ?_⟩
    obtain ⟨h6, h7⟩ := h5 hp
    exact ⟨h7, (mask_bit P (P i) hp i h).1 h6⟩
  · rintro ⟨⟨h1, h2, h3, h4⟩, h5⟩
    refine ⟨⟨⟨⟨by omega, by omega⟩, by omega⟩, by omega⟩, fun hp => ?_⟩
    obtain ⟨h6, h7⟩ := h5 hp
    exact ⟨(mask_bit P (P i) hp i h).2 h7, h6⟩
theorem anyBad_iff (P G : Nat → Int) : ∀ n, (anyBad P G n = false ↔ ∀ i, i < n → Good P G i) := by
  intro n
  induction n with
  | zero => exact ⟨fun _ i hi => by omega, fun _ => rfl⟩
  | succ n ih =>
    show (anyBad P G n || badSeat (P n) (G n) (mask P n)) = false ↔ _
    rw [Bool.or_eq_false_iff, ih]
    constructor
    · rintro ⟨h1, h2⟩ i hi
      by_cases e : i = n
      · subst e; exact (bad_iff P G i (fun m hm => (h1 m hm).1.1)).1 h2
      · exact h1 i (by omega)
    · intro h
      exact ⟨fun i hi => h i (by omega), (bad_iff P G n (fun m hm => (h m (by omega)).1.1)).2 (h n (by omega))⟩
theorem may_iff (v : Int) (P G : Nat → Int) : mayR v P G = true ↔ (0 ≤ v ∧ v ≤ 1073741824) ∧ ∀ i, i < 8 → Good P G i := by
  unfold mayR
  simp only [Bool.and_eq_true, decide_eq_true_eq, Bool.not_eq_true']
  rw [anyBad_iff]
/-- Nobody has two slots, in either order. -/
theorem good_apart {P G : Nat → Int} (h : ∀ i, i < 8 → Good P G i) (i j : Nat) (hi : i < 8) (hj : j < 8) (hne : i ≠ j) (hp : 0 ≤ P i) : P i ≠ P j := by
  intro e
  rcases Nat.lt_or_gt_of_ne hne with h1 | h1
  · exact ((h j hj).2 (by omega)).2 i h1 e
  · exact ((h i hi).2 hp).2 j h1 e.symm
theorem updI_eq (f : Nat → Int) (k : Nat) (x : Int) : updI f k x k = x := if_pos rfl
theorem updI_ne (f : Nat → Int) {k n : Nat} (x : Int) (h : n ≠ k) : updI f k x n = f n := if_neg h
theorem take_may {v : Int} {n : Nat} {peer : Int} {P G : Nat → Int} (h : takeR v P G n peer = true) : mayR (v + 1) (updI P n peer) (updI G n (G n + 1)) = true := by
  unfold takeR at h
  simp only [Bool.and_eq_true, decide_eq_true_eq, Int.toNat_natCast] at h
  obtain ⟨⟨⟨⟨hs, h1⟩, h2⟩, hall⟩, hg⟩ := h
  rw [all_ne] at hall
  obtain ⟨n', hnn, hn, hm, hv0, hv1, hpn⟩ := seat_slot hs
  rw [may_iff] at hm ⊢
  refine ⟨by omega, fun i hi => ?_⟩
  obtain ⟨⟨g1, g2, g3, g4⟩, g5⟩ := hm.2 i hi
  by_cases e : i = n
  · subst e
    unfold Good
    rw [updI_eq, updI_eq]
    refine ⟨⟨by omega, by omega, by omega, by omega⟩, fun _ => ⟨by omega, fun m hm' => ?_⟩⟩
    rw [updI_ne _ _ (by omega)]
    exact hall m (by omega)
  · unfold Good
    rw [updI_ne _ _ e, updI_ne _ _ e]
    refine ⟨⟨g1, g2, g3, g4⟩, fun hp => ⟨(g5 hp).1, fun m hm' => ?_⟩⟩
    by_cases e2 : m = n
    · subst e2; rw [updI_eq]; exact fun h => hall i hi h.symm
    · rw [updI_ne _ _ e2]; exact (g5 hp).2 m hm'
theorem give_may {v : Int} {n : Nat} {P G : Nat → Int} (h : seatR v P G n true = true) : mayR (v + 1) (updI P n (-1)) G = true := by
  obtain ⟨n', hnn, hn, hm, hv0, hv1, hpn⟩ := seat_slot h
  rw [may_iff] at hm ⊢
  refine ⟨by omega, fun i hi => ?_⟩
  obtain ⟨⟨g1, g2, g3, g4⟩, g5⟩ := hm.2 i hi
  by_cases e : i = n
  · subst e
    unfold Good
    rw [updI_eq]
    exact ⟨⟨by omega, by omega, by omega, by omega⟩, fun h => by omega⟩
  · unfold Good
    rw [updI_ne _ _ e]
    refine ⟨⟨g1, g2, g3, g4⟩, fun hp => ⟨(g5 hp).1, fun m hm' => ?_⟩⟩
    by_cases e2 : m = n
    · subst e2; rw [updI_eq]; omega
    · rw [updI_ne _ _ e2]; exact (g5 hp).2 m hm'
end Go.Proofs.Ythjabcogbjdkiaa
