/-
  Wire: Same.
-/
import Derived.Test.YtembppihfcclcaaMR
namespace Go.Proofs.Ytembppihfcclcaa
set_option linter.unusedVariables false
open Go.ChangeShapes Go.WideShapes Go.ChangeAt Go.RowKit

set_option linter.unusedSimpArgs false
def insEq (I I' : Nat → Int) : Nat → Bool
  | 0 => true
  | n + 1 => insEq I I' n && (I (n * 3) == I' (n * 3) && (I (n * 3 + 1) == I' (n * 3 + 1) && I (n * 3 + 2) == I' (n * 3 + 2)))
theorem insEq_mono (I I' : Nat → Int) (n m : Nat) (h : n ≤ m) (hb : insEq I I' n = false) : insEq I I' m = false := by
  induction m with
  | zero => have : n = 0 := by omega
            subst this; exact hb
  | succ m ih =>
    by_cases e : n = m + 1
    · subst e; exact hb
    · unfold insEq; rw [ih (by omega), Bool.false_and]
theorem insEq_iff (I I' : Nat → Int) : ∀ n, insEq I I' n = true ↔ ∀ k, k < 3 * n → I k = I' k := by
  intro n
  induction n with
  | zero => exact ⟨fun _ i hi => by omega, fun _ => rfl⟩
  | succ n ih =>
    unfold insEq
    simp only [Bool.and_eq_true, beq_iff_eq, ih]
    constructor
    · rintro ⟨h1, h2, h3, h4⟩ k hk
      by_cases e : k < 3 * n
      · exact h1 k e
      · rcases (by omega : k = n * 3 ∨ k = n * 3 + 1 ∨ k = n * 3 + 2) with rfl | rfl | rfl <;> assumption
    · intro h
      exact ⟨fun k hk => h k (by omega), h _ (by omega), h _ (by omega), h _ (by omega)⟩
set_option maxHeartbeats 1000000 in
theorem eqIn_any (n n' : Nat) (I I' : Nat → Int) (sv sv' : Value) (w : World) (h : InpsV w sv n I) (h' : InpsV w sv' n' I') :
    Calls Try.prog 50 #[sv, sv'] w fun e w' => e = .returned (.bool (decide (n = n') && insEq I I' n)) ∧ Below w.heap.size w w' := by
  obtain ⟨a, cap, rfl, hnc, hcm, hev⟩ := h
  obtain ⟨a', cap', rfl, hnc', hcm', hev'⟩ := h'
  unfold maxLen at hcm hcm'
  by_cases hnn : n = n'
  · subst hnn
    have bnn : ((n : Int) == (n : Int)) = true := by simp
    rw [decide_eq_true rfl, Bool.true_and]
    have HEV := Lib.hid hev
    have HEV' := Lib.hid hev'
    clear hev hev'
    go_enter Try.func50, Try.ntmps50
    go_wp2_with fail
    go_loopw [13] (fun i wr => ∃ k : Nat, k ≤ n ∧ i = .int .i64 k ∧ insEq I I' k = true ∧ Below w.heap.size w wr) (fun i _ => n - (intOf i).toNat)
    case atStart => exact ⟨0, by omega, rfl, rfl, Below.refl _ _⟩
    case round =>
      obtain ⟨k, hk, rfl, hok, hB⟩ := hrel
      have HB := Lib.hid hB
      have HOK := Lib.hid hok
      clear hok
      by_cases hlt : k < n
      · obtain ⟨b, o, rfl, hbl, hin⟩ := HEV.out (by omega)
        obtain ⟨b', o', rfl, hbl', hin'⟩ := HEV'.out (by omega)
        have he := hin.block (hB.block b hbl)
        have he' := hin'.block (hB.block b' hbl')
        have d0 := cell_regrown (he.x k hlt)
        have d1 := cell_regrown (he.y k hlt)
        have d2 := cell_regrown (he.z k hlt)
        have d0' := cell_regrown (he'.x k hlt)
        have d1' := cell_regrown (he'.y k hlt)
        have d2' := cell_regrown (he'.z k hlt)
        have hki : (k : Int) < (n : Int) := by omega
        have HN : Hid (insEq I I' (k + 1) = (insEq I I' k && (I (k * 3) == I' (k * 3) && (I (k * 3 + 1) == I' (k * 3 + 1) && I (k * 3 + 2) == I' (k * 3 + 2))))) := Lib.hid rfl
        have HMono := Lib.hid (insEq_mono I I' (k + 1) n (by omega))
        clear hB he he' hin hin'
        generalize I (k * 3) = x0 at *
        generalize I (k * 3 + 1) = x1 at *
        generalize I (k * 3 + 2) = x2 at *
        generalize I' (k * 3) = y0 at *
        generalize I' (k * 3 + 1) = y1 at *
        generalize I' (k * 3 + 2) = y2 at *
        rcases hb0 : (x0 == y0) with _ | _
        · have hrel : insEq I I' (k + 1) = false := by rw [HN.out, hb0]; simp
          have HRel := Lib.hid (HMono.out hrel)
          clear hrel HN
          go_wp2_with fail
          refine wp_region_quiet_below (by kernel_rfl) (by kernel_rfl) ?_
          repeat (go_big_quiet_step (fail))
          refine wpQuiet_nil ?_
          intro w10 hw'
          obtain ⟨⟨nq, osq⟩, hw3⟩ := hw'
          have HW := Lib.hid (HB.out.trans ((below_regrown _ nq osq).mono HB.out.size))
          rw [← hw3] at HW
          clear hw3 d0 d1 d2 d0' d1' d2' HB
          go_wp2_with fail
          go_ret
          exact ⟨by rw [HRel.out]; rfl, HW.out⟩
        have e0 := eq_of_beq hb0
        subst e0
        rcases hb1 : (x1 == y1) with _ | _
        · have hrel : insEq I I' (k + 1) = false := by rw [HN.out, hb1]; simp
          have HRel := Lib.hid (HMono.out hrel)
          clear hrel HN
          go_wp2_with fail
          refine wp_region_quiet_below (by kernel_rfl) (by kernel_rfl) ?_
          repeat (go_big_quiet_step (fail))
          refine wpQuiet_nil ?_
          intro w10 hw'
          obtain ⟨⟨nq, osq⟩, hw3⟩ := hw'
          have HW := Lib.hid (HB.out.trans ((below_regrown _ nq osq).mono HB.out.size))
          rw [← hw3] at HW
          clear hw3 d0 d1 d2 d0' d1' d2' HB
          go_wp2_with fail
          go_ret
          exact ⟨by rw [HRel.out]; rfl, HW.out⟩
        have e1 := eq_of_beq hb1
        subst e1
        rcases hb2 : (x2 == y2) with _ | _
        · have hrel : insEq I I' (k + 1) = false := by rw [HN.out, hb2]; simp
          have HRel := Lib.hid (HMono.out hrel)
          clear hrel HN
          go_wp2_with fail
          refine wp_region_quiet_below (by kernel_rfl) (by kernel_rfl) ?_
          repeat (go_big_quiet_step (fail))
          refine wpQuiet_nil ?_
          intro w10 hw'
          obtain ⟨⟨nq, osq⟩, hw3⟩ := hw'
          have HW := Lib.hid (HB.out.trans ((below_regrown _ nq osq).mono HB.out.size))
          rw [← hw3] at HW
          clear hw3 d0 d1 d2 d0' d1' d2' HB
          go_wp2_with fail
          go_ret
          exact ⟨by rw [HRel.out]; rfl, HW.out⟩
        have e2 := eq_of_beq hb2
        subst e2
        have hrel : insEq I I' (k + 1) = true := by rw [HN.out, HOK.out]; simp
        have HRel := Lib.hid hrel
        clear hrel HN
        go_wp2_with fail
        refine wp_region_quiet_below (by kernel_rfl) (by kernel_rfl) ?_
        repeat (go_big_quiet_step (fail))
        refine wpQuiet_nil ?_
        intro w10 hw'
        obtain ⟨⟨nq, osq⟩, hw3⟩ := hw'
        have HW := Lib.hid (HB.out.trans ((below_regrown _ nq osq).mono HB.out.size))
        rw [← hw3] at HW
        clear hw3 d0 d1 d2 d0' d1' d2' HB
        go_wp2_with fail
        all_goals first | exact ⟨⟨k + 1, by omega, by go_num, HRel.out, HW.out⟩, by simp [intOf]; omega⟩ | exact ⟨k + 1, by omega, by go_num, HRel.out, HW.out⟩ | (simp [intOf]; omega) | go_roundw
      · obtain rfl : k = n := by omega
        go_wp2_with fail
        go_ret
        exact ⟨by rw [HOK.out]; rfl, hB⟩
  · have bnn : ((n : Int) == (n' : Int)) = false := by rw [beq_eq_false_iff_ne]; omega
    rw [decide_eq_false hnn, Bool.false_and]
    clear hev hev'
    go_enter Try.func50, Try.ntmps50
    go_wp2_with fail
    go_ret
    exact ⟨rfl, Below.refl _ _⟩
/-- Are the numbers of two messages the same? -/
def numB (F G : Nat → Int) : Nat → Bool
  | 0 => true
  | k + 1 => numB F G k && F k == G k
theorem numB_iff (F G : Nat → Int) : ∀ n, numB F G n = true ↔ ∀ k, k < n → F k = G k := by
  intro n
  induction n with
  | zero => exact ⟨fun _ i hi => by omega, fun _ => rfl⟩
  | succ n ih =>
    unfold numB
    simp only [Bool.and_eq_true, beq_iff_eq, ih]
    constructor
    · rintro ⟨h1, h2⟩ k hk
      by_cases e : k = n
      · subst e; exact h2
      · exact h1 k (by omega)
    · intro h
      exact ⟨fun k hk => h k (by omega), h n (by omega)⟩
theorem numB_no (F G : Nat → Int) {k : Nat} (hk : k < 13) (h : F k ≠ G k) : numB F G 13 = false := by
  cases e : numB F G 13
  · rfl
  · exact absurd ((numB_iff F G 13).1 e k hk) h
def sameM (M N : Msg) : Bool := numB M.F N.F 13 && ((decide (M.ni = N.ni) && insEq M.I N.I M.ni) && ((decide (M.nl = N.nl) && entsEq M.D N.D M.nl) && decide (M.d = N.d)))
end Go.Proofs.Ytembppihfcclcaa
