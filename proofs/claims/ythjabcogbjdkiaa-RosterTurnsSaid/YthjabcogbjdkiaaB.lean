/-
  Roster: May, Of.
-/
import Derived.Test.YthjabcogbjdkiaaA
namespace Go.Proofs.Ythjabcogbjdkiaa
set_option linter.unusedVariables false
open Go.ChangeShapes Go.WideShapes Go.ChangeAt Go.RowKit

/-- The seats of a roster in memory. -/
structure SeatsAt (w : World) (b : Nat) (P G : Nat → Int) : Prop where
  p : ∀ n, n < 8 → w.cell? ⟨b, 1 + n * 2, none⟩ = some (.int .i64 (P n))
  g : ∀ n, n < 8 → w.cell? ⟨b, 1 + n * 2 + 1, none⟩ = some (.int .i64 (G n))
theorem SeatsAt.block {w w' : World} {b : Nat} {P G : Nat → Int} (a : SeatsAt w b P G) (k : w'.heap[b]? = w.heap[b]?) : SeatsAt w' b P G :=
  ⟨fun n hn => (World.cell?_of_block k).trans (a.p n hn), fun n hn => (World.cell?_of_block k).trans (a.g n hn)⟩
theorem block_of_cell {w : World} {b o : Nat} {v : Value} (h : w.cell? ⟨b, o, none⟩ = some v) : b < w.heap.size := by
  apply Classical.byContradiction
  intro hn
  have e : w.heap[b]? = none := by simp; omega
  simp [World.cell?, e] at h
def mask (P : Nat → Int) : Nat → Nat
  | 0 => 0
  | n + 1 => mask P n ||| bitP (P n)
def anyBad (P G : Nat → Int) : Nat → Bool
  | 0 => false
  | n + 1 => anyBad P G n || badSeat (P n) (G n) (mask P n)
theorem anyBad_mono (P G : Nat → Int) (n m : Nat) (h : n ≤ m) (hb : anyBad P G n = true) : anyBad P G m = true := by
  induction m with
  | zero => have : n = 0 := by omega
            subst this; exact hb
  | succ m ih =>
    by_cases e : n = m + 1
    · subst e; exact hb
    · unfold anyBad; rw [ih (by omega), Bool.true_or]
theorem not_wrong {p g : Int} {M : Nat} (h : badSeat p g M = false) : -1 ≤ p ∧ p < 12 ∧ 0 ≤ g ∧ g ≤ 60000 := by
  unfold badSeat wrongSeat at h
  simp only [Bool.or_eq_false_iff, decide_eq_false_iff_not] at h
  omega
theorem bitP_lt (p : Int) (h0 : -1 ≤ p) (h1 : p < 12) : bitP p < 2 ^ 20 := by
  unfold bitP
  split
  · decide
  · exact Nat.pow_lt_pow_right (by omega) (by omega)
theorem mask_lt (P G : Nat → Int) (n : Nat) (h : anyBad P G n = false) : mask P n < 2 ^ 20 := by
  induction n with
  | zero => show (0 : Nat) < _; decide
  | succ n ih =>
    unfold anyBad at h
    rw [Bool.or_eq_false_iff] at h
    obtain ⟨h1, h2, -⟩ := not_wrong h.2
    exact Nat.or_lt_two_pow (ih h.1) (bitP_lt _ h1 h2)
def mayR (v : Int) (P G : Nat → Int) : Bool := decide (0 ≤ v) && decide (v ≤ 1073741824) && !anyBad P G 8

set_option maxHeartbeats 1000000 in
theorem idx_19 (b S : Nat) (P G : Nat → Int) (w : World) (hs : SeatsAt w b P G) (hbS : b ≠ S) (hb : b < w.heap.size) (hS : S < w.heap.size) (c : w.cell? ⟨S, 0, none⟩ = some (.int .i64 0)) (f : w.frozen? ⟨S, 0, none⟩ = false) :
    Calls Try.prog 15 #[.slice (some ⟨b, 1, none⟩) 8 8, .func (.func 19) #[] #[.pointer (some ⟨S, 0, none⟩)]] w fun e w' => (∃ r : Int, e = .returned (.int .i64 r) ∧ decide (0 ≤ r) = anyBad P G 8) ∧ Frame (fun k => k = S) w w' := by
  have HS := Lib.hid hs
  clear hs
  go_enter Try.func15, Try.ntmps15
  go_wp2_with fail
  go_loopw [8] (fun i wr => ∃ n : Nat, n ≤ 8 ∧ i = .int .i64 n ∧ anyBad P G n = false ∧ wr.cell? ⟨S, 0, none⟩ = some (.int .i64 (mask P n)) ∧ wr.frozen? ⟨S, 0, none⟩ = false ∧ Frame (fun k => k = S) w wr) (fun i _ => 8 - (intOf i).toNat)
  case atStart => exact ⟨0, by omega, rfl, rfl, c, f, Frame.refl _ _⟩
  case round =>
    obtain ⟨n, hn, rfl, hnb, hc, hf, hF⟩ := hrel
    have hml := mask_lt P G n hnb
    by_cases hlt : n < 8
    · have hsr := HS.out.block (hF.block b hb hbS)
      have d0 := hsr.p n hlt
      have d1 := hsr.g n hlt
      have hSr : S < wr.heap.size := Nat.lt_of_lt_of_le hS hF.size
      have hnext : anyBad P G (n + 1) = badSeat (P n) (G n) (mask P n) := by show (anyBad P G n || _) = _; rw [hnb, Bool.false_or]
      have HN := Lib.hid hnext
      have HF := Lib.hid hF
      have HM : Hid (mask P (n + 1) = mask P n ||| bitP (P n)) := Lib.hid rfl
      have HML := Lib.hid hml
      have HMono := Lib.hid (anyBad_mono P G (n + 1) 8 (by omega))
      clear hsr hnext hF hnb hml c f
      generalize P n = p at *
      generalize G n = g at *
      generalize mask P n = M at *
      have HC := Lib.hid hc
      have HFz := Lib.hid hf
      clear hc hf
      by_cases hw : wrongSeat p g = true
      · have hbad : badSeat p g M = true := by unfold badSeat; rw [hw]; rfl
        have HB := Lib.hid hbad
        clear hbad
        go_wp2_with fail
        refine (seat_wrong p g S hw _).mono ?_
        rintro e w2 ⟨rfl, hb2⟩
        have HF2 := Lib.hid (HF.out.trans (Frame.of_below hb2 _))
        clear hb2
        go_wp2_with fail
        go_ret
        exact ⟨⟨n, rfl, by rw [HMono.out (by rw [HN.out, HB.out])]; simp⟩, HF2.out⟩
      · have hw' : wrongSeat p g = false := by simpa using hw
        go_wp2_with fail
        refine (seat_ok p g S M HML.out hw' _ hSr HC.out HFz.out).mono ?_
        rintro e w2 ⟨rfl, hc2, hF2, hf2⟩
        have HF2 := Lib.hid (HF.out.trans hF2)
        have HC2 := Lib.hid hc2
        have HFz2 := Lib.hid hf2
        clear hc2 hF2 hf2 hw hw'
        cases hbad : badSeat p g M with
        | true =>
          have HB := Lib.hid hbad
          clear hbad
          go_wp2_with fail
          go_ret
          exact ⟨⟨n, rfl, by rw [HMono.out (by rw [HN.out, HB.out])]; simp⟩, HF2.out⟩
        | false =>
          have hrel : anyBad P G (n + 1) = false := by rw [HN.out, hbad]
          have hrc : w2.cell? ⟨S, 0, none⟩ = some (.int .i64 (mask P (n + 1))) := by rw [HM.out]; exact HC2.out
          have HRel := Lib.hid hrel
          have HRc := Lib.hid hrc
          clear hbad hrel hrc
          go_wp2_with fail
          all_goals first | exact ⟨⟨n + 1, by omega, by go_num, HRel.out, HRc.out, HFz2.out, HF2.out⟩, by simp [intOf]; omega⟩ | exact ⟨n + 1, by omega, by go_num, HRel.out, HRc.out, HFz2.out, HF2.out⟩ | (simp [intOf]; omega) | go_roundw
    · obtain rfl : n = 8 := by omega
      have HNB := Lib.hid hnb
      go_wp2_with fail
      go_ret
      exact ⟨⟨-1, rfl, by rw [HNB.out]; rfl⟩, hF⟩
end Go.Proofs.Ythjabcogbjdkiaa
