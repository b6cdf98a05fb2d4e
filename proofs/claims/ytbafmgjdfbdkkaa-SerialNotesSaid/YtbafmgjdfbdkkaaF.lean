/-
  Serial: the Go text of SerialOnce returns true for every input.
-/
import Derived.Test.YtbafmgjdfbdkkaaD
namespace Go.Proofs.Ytbafmgjdfbdkkaa
set_option linter.unusedVariables false
open Go.ChangeShapes Go.WideShapes Go.ChangeAt Go.RowKit

/-- A slice of whole numbers that came in: nil, or a row of cells. -/
def IsRow (k : IntKind) (w : World) (a : Option Addr) (len cap : Nat) (zs : List Int) : Prop :=
  (a = none ∧ len = 0 ∧ cap = 0 ∧ zs = []) ∨
  ∃ x, a = some x ∧ len ≤ cap ∧ cap ≤ maxLen ∧ zs.length = cap ∧ (∀ i, i < zs.length → w.cell? (x.add i) = some (.int k (zs.getD i 0))) ∧ ∀ n ∈ zs, (Lit.int k n).wf = true

theorem isRow_of {H : Type} {enc : TypeId × Value → H} {P : Program} {w : World} {t e : TypeId} {k : IntKind} {a : Option Addr} {len cap : Nat} {d : DataW H} {p : List MemPlace}
    (ht : P.underlying t = some (.slice e)) (he : P.underlying e = some (.int k)) (hc : P.cellsOf e = 1)
    (h : DataW.Trod enc P w 0 (fun _ => true) true t (.slice a len cap) d p) : ∃ zs, IsRow k w a len cap zs := by
  obtain ⟨fuel, hf⟩ := h
  rcases open_ints ht he hc hf with ⟨hcs, _⟩ | ⟨x, l, c, zs, hcs, _, hl, hm, hz, _, hcell, hwz⟩
  · simp [Value.cells] at hcs
    obtain ⟨rfl, rfl, rfl⟩ := hcs
    exact ⟨[], .inl ⟨rfl, rfl, rfl, rfl⟩⟩
  · simp [Value.cells] at hcs
    obtain ⟨rfl, rfl, rfl⟩ := hcs
    exact ⟨zs, .inr ⟨_, rfl, hl, hm, by simpa using hz, hcell, hwz⟩⟩

theorem block_of_cell {w : World} {b o : Nat} {v : Value} (h : w.cell? ⟨b, o, none⟩ = some v) : b < w.heap.size := by
  apply Classical.byContradiction
  intro hn
  have e : w.heap[b]? = none := by simp; omega
  simp [World.cell?, e] at h

/-- An element of the slice, where there is one. -/
theorem IsRow.elem {k : IntKind} {w : World} {a : Option Addr} {len cap : Nat} {zs : List Int} (h : IsRow k w a len cap zs) (hl : 0 < len) :
    ∃ b o, a = some ⟨b, o, none⟩ ∧ b < w.heap.size ∧ (∀ i, i < len → w.cell? ⟨b, o + i, none⟩ = some (.int k (zs.getD i 0))) ∧ (∀ i, i < len → (Lit.int k (zs.getD i 0)).wf = true) := by
  rcases h with ⟨_, h0, _⟩ | ⟨x, rfl, h1, h2, h3, h4, h5⟩
  · omega
  · obtain ⟨b, o, rfl, hc⟩ := ints_at h4 (by omega)
    refine ⟨b, o, rfl, block_of_cell (hc 0 (by omega)), fun i hi => hc i (by omega), fun i hi => ?_⟩
    have hi' : i < zs.length := by omega
    have : zs.getD i 0 = zs[i] := by simp [List.getD_eq_getElem?_getD, List.getElem?_eq_getElem hi']
    rw [this]
    exact h5 _ (List.getElem_mem _)

theorem IsRow.len_le {k : IntKind} {w : World} {a : Option Addr} {len cap : Nat} {zs : List Int} (h : IsRow k w a len cap zs) : len ≤ maxLen := by
  rcases h with ⟨_, h0, _⟩ | ⟨x, rfl, h1, h2, h3, h4, h5⟩
  · subst h0; exact Nat.zero_le _
  · omega

theorem last_nil (w : World) : Calls Try.prog 18 #[.pointer none] w fun e w' => e = .returned (.tuple #[.int .u16 0, .int .u32 0]) ∧ w = w' := by
  go_enter Try.func18, Try.ntmps18
  go_wp2
  go_ret2
  exact ⟨rfl, rfl⟩
theorem note_nil (s : Int) (w : World) : Calls Try.prog 16 #[.pointer none, .int .u16 s] w fun e w' => e = .returned (.bool false) ∧ w = w' := by
  go_enter Try.func16, Try.ntmps16
  go_wp2
  go_ret
  exact ⟨rfl, rfl⟩

def OnceSt (a : Int) (is : Bool) (l : Int) (m : Nat) (c : Nat → Bool) : Prop :=
  (is = false ∧ l = 0 ∧ m = 0 ∧ ∀ k, c k = false) ∨
  (is = true ∧ ∃ t : Nat, t ≤ 40 ∧ l = (a + t) % 65536 ∧ ∀ k, k ≤ 40 → c k = true → k ≤ t ∧ (k = t ∨ t > k + 32 ∨ m.testBit (t - k - 1) = true))

def upd (c : Nat → Bool) (k : Nat) (v : Bool) : Nat → Bool := fun j => if j = k then v else c j

theorem way_near (a : Int) (t k : Nat) (ht : t ≤ 40) (hk : k ≤ 40) (l s : Int) (hl : l = (a + t) % 65536) (hs : s = (a + k) % 65536) : way l s = (k : Int) - t := by
  rw [way_eq]; omega

theorem once_step (a : Int) (is : Bool) (l : Int) (m : Nat) (c : Nat → Bool) (h : OnceSt a is l m c) (k : Nat) (hk : k ≤ 40) (s : Int) (hs : s = (a + k) % 65536) :
    (noteB is l s m = true → c k = false) ∧
    OnceSt a true (noteL is l s) (noteM is l s m) (upd c k (c k || noteB is l s m)) ∧
    (noteB is l s m = true → toldN s (noteL is l s) (noteM is l s m) = true) := by
  rcases h with ⟨rfl, rfl, rfl, hc⟩ | ⟨rfl, t, ht, hl, hc⟩
  · refine ⟨fun _ => hc k, Or.inr ⟨rfl, k, hk, by simpa [noteL] using hs, ?_⟩, fun _ => ?_⟩
    · intro j hj hj2
      unfold upd at hj2
      by_cases e : j = k
      · exact ⟨by omega, Or.inl e⟩
      · rw [if_neg e, hc] at hj2; cases hj2
    · have : way s s = 0 := by rw [way_eq]; omega
      simp [toldN, noteL, this]
  have hw : way l s = (k : Int) - t := way_near a t k ht hk l s hl hs
  by_cases c1 : t < k
  · have p1 : 0 < way l s := by omega
    have hn : noteB true l s m = true := by simp [noteB, p1]
    have hL : noteL true l s = s := by simp [noteL, p1]
    refine ⟨fun _ => ?_, Or.inr ⟨rfl, k, hk, by rw [hL, hs], ?_⟩, fun _ => ?_⟩
    · cases hck : c k with
      | false => rfl
      | true => have := (hc k hk hck).1; omega
    · intro j hj hj2
      unfold upd at hj2
      by_cases e : j = k
      · exact ⟨by omega, Or.inl e⟩
      rw [if_neg e] at hj2
      obtain ⟨h1, h2⟩ := hc j hj hj2
      refine ⟨by omega, Or.inr ?_⟩
      by_cases c2 : k > j + 32
      · exact Or.inl c2
      right
      have hd : ¬ 32 < way l s := by omega
      unfold noteM
      rw [if_neg (by simp), if_neg hd, if_pos p1, hw, Nat.testBit_or, bitN, Nat.testBit_two_pow, Nat.testBit_mod_two_pow, Nat.testBit_mul_two_pow]
      have e1 : ((k : Int) - t).toNat = k - t := by omega
      rw [e1]
      rcases h2 with h2 | h2 | h2
      · have : k - t - 1 = k - j - 1 := by omega
        simp [this]
      · omega
      · have e2 : k - j - 1 - (k - t) = t - j - 1 := by omega
        by_cases e3 : j = t
        · have : k - t - 1 = k - j - 1 := by omega
          simp [this]
        · rw [e2, h2]
          simp
          omega
    · have : way s s = 0 := by rw [way_eq]; omega
      simp [toldN, hL, this]
  by_cases c2 : t = k
  · subst c2
    have hw0 : way l s = 0 := by omega
    have hn : noteB true l s m = false := by simp [noteB, hw0]
    have hL : noteL true l s = l := by simp [noteL, hw0]
    have hM : noteM true l s m = m := by simp [noteM, hw0]
    rw [hn, hL, hM]
    refine ⟨by simp, Or.inr ⟨rfl, t, ht, hl, ?_⟩, by simp⟩
    intro j hj hj2
    unfold upd at hj2
    by_cases e : j = t
    · exact ⟨by omega, Or.inl e⟩
    · rw [if_neg e] at hj2; exact hc j hj hj2
  have n1 : ¬ 0 < way l s := by omega
  have n2 : ¬ way l s = 0 := by omega
  have n0 : ¬ 32 < way l s := by omega
  have hL : noteL true l s = l := by simp [noteL, n1]
  by_cases c3 : t > k + 32
  · have n3 : way l s < -32 := by omega
    have hn : noteB true l s m = false := by
      unfold noteB; rw [if_neg (by simp), if_neg n1, if_neg n2, if_pos n3]
    have hM : noteM true l s m = m := by
      unfold noteM; rw [if_neg (by simp), if_neg n0, if_neg n1, if_neg n2, if_pos n3]
    rw [hn, hL, hM]
    refine ⟨by simp, Or.inr ⟨rfl, t, ht, hl, ?_⟩, by simp⟩
    intro j hj hj2
    unfold upd at hj2
    by_cases e : j = k
    · exact ⟨by omega, Or.inr (Or.inl (by omega))⟩
    · rw [if_neg e] at hj2; exact hc j hj hj2
  · have n3 : ¬ way l s < -32 := by omega
    have e1 : (-way l s).toNat - 1 = t - k - 1 := by omega
    have hn : noteB true l s m = !(m.testBit (t - k - 1)) := by
      unfold noteB; rw [if_neg (by simp), if_neg n1, if_neg n2, if_neg n3, e1]
    have hM : noteM true l s m = m ||| 2 ^ (t - k - 1) := by
      unfold noteM; rw [if_neg (by simp), if_neg n0, if_neg n1, if_neg n2, if_neg n3, bitN, e1]
    rw [hn, hL, hM]
    refine ⟨fun h => ?_, Or.inr ⟨rfl, t, ht, hl, ?_⟩, fun h => ?_⟩
    · cases hck : c k with
      | false => rfl
      | true =>
        obtain ⟨g1, g2⟩ := hc k hk hck
        rcases g2 with g2 | g2 | g2
        · omega
        · omega
        · rw [g2] at h; cases h
    · intro j hj hj2
      unfold upd at hj2
      by_cases e : j = k
      · subst e
        exact ⟨by omega, Or.inr (Or.inr (by rw [Nat.testBit_or, Nat.testBit_two_pow_self]; simp))⟩
      · rw [if_neg e] at hj2
        obtain ⟨g1, g2⟩ := hc j hj hj2
        refine ⟨g1, ?_⟩
        rcases g2 with g2 | g2 | g2
        · exact Or.inl g2
        · exact Or.inr (Or.inl g2)
        · exact Or.inr (Or.inr (by rw [Nat.testBit_or, g2]; rfl))
    · have hw2 : way s l = (t : Int) - k := way_near a k t hk ht s l hs hl
      unfold toldN
      have e2 : (way s l).toNat - 1 = t - k - 1 := by omega
      rw [e2, Nat.testBit_or, Nat.testBit_two_pow_self]
      have d1 : decide (1 ≤ way s l) = true := by simp; omega
      have d2 : decide (way s l ≤ 32) = true := by simp; omega
      rw [d1, d2]; simp
end Go.Proofs.Ytbafmgjdfbdkkaa
