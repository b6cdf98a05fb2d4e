/-
  Entry: slices.Equal of events; Same.
-/
import Derived.Test.YtembppihfcclcaaC
namespace Go.Proofs.Ytembppihfcclcaa
set_option linter.unusedVariables false
open Go.ChangeShapes Go.WideShapes Go.ChangeAt Go.RowKit

def evEq (E E' : Nat → Nat → Int) (k : Nat) : Bool := E k 0 == E' k 0 && (E k 1 == E' k 1 && (E k 2 == E' k 2 && E k 3 == E' k 3))
def evsEq (E E' : Nat → Nat → Int) : Nat → Bool
  | 0 => true
  | n + 1 => evsEq E E' n && evEq E E' n
theorem evsEq_mono (E E' : Nat → Nat → Int) (n m : Nat) (h : n ≤ m) (hb : evsEq E E' n = false) : evsEq E E' m = false := by
  induction m with
  | zero => have : n = 0 := by omega
            subst this; exact hb
  | succ m ih =>
    by_cases e : n = m + 1
    · subst e; exact hb
    · unfold evsEq; rw [ih (by omega), Bool.false_and]
theorem evsEq_iff (E E' : Nat → Nat → Int) : ∀ n, evsEq E E' n = true ↔ ∀ i, i < n → E i 0 = E' i 0 ∧ E i 1 = E' i 1 ∧ E i 2 = E' i 2 ∧ E i 3 = E' i 3 := by
  intro n
  induction n with
  | zero => exact ⟨fun _ i hi => by omega, fun _ => rfl⟩
  | succ n ih =>
    unfold evsEq evEq
    simp only [Bool.and_eq_true, beq_iff_eq, ih]
    constructor
    · rintro ⟨h1, h2⟩ i hi
      by_cases e : i = n
      · subst e; exact h2
      · exact h1 i (by omega)
    · intro h
      exact ⟨fun i hi => h i (by omega), h n (by omega)⟩
set_option maxHeartbeats 1000000 in
theorem eqEv_any (n n' : Nat) (E E' : Nat → Nat → Int) (sv sv' : Value) (w : World) (h : EvsV w sv n E) (h' : EvsV w sv' n' E') :
    Calls Try.prog 64 #[sv, sv'] w fun e w' => e = .returned (.bool (decide (n = n') && evsEq E E' n)) ∧ Below w.heap.size w w' := by
  obtain ⟨a, cap, rfl, hnc, hcm, hev⟩ := h
  obtain ⟨a', cap', rfl, hnc', hcm', hev'⟩ := h'
  unfold maxLen at hcm hcm'
  by_cases hnn : n = n'
  · subst hnn
    have bnn : ((n : Int) == (n : Int)) = true := by simp
    rw [decide_eq_true rfl, Bool.true_and]
    have HEV := Lib.hid hev
    have HEV' := Lib.hid hev'
    clear hev hev'
    go_enter Try.func64, Try.ntmps64
    go_wp2_with fail
    go_loopw [13] (fun i wr => ∃ k : Nat, k ≤ n ∧ i = .int .i64 k ∧ evsEq E E' k = true ∧ Below w.heap.size w wr) (fun i _ => n - (intOf i).toNat)
    case atStart => exact ⟨0, by omega, rfl, rfl, Below.refl _ _⟩
    case round =>
      obtain ⟨k, hk, rfl, hok, hB⟩ := hrel
      have HB := Lib.hid hB
      have HOK := Lib.hid hok
      clear hok
      by_cases hlt : k < n
      · obtain ⟨b, o, rfl, hbl, hin⟩ := HEV.out (by omega)
        obtain ⟨b', o', rfl, hbl', hin'⟩ := HEV'.out (by omega)
        have he := hin.block (hB.block b hbl)
        have he' := hin'.block (hB.block b' hbl')
        have d0 := cell_regrown (he.k k hlt)
        have d1 := cell_regrown (he.s k hlt)
        have d2 := cell_regrown (he.g k hlt)
        have d3 := cell_regrown (he.p k hlt)
        have d0' := cell_regrown (he'.k k hlt)
        have d1' := cell_regrown (he'.s k hlt)
        have d2' := cell_regrown (he'.g k hlt)
        have d3' := cell_regrown (he'.p k hlt)
        have hki : (k : Int) < (n : Int) := by omega
        have HN : Hid (evsEq E E' (k + 1) = (evsEq E E' k && (E k 0 == E' k 0 && (E k 1 == E' k 1 && (E k 2 == E' k 2 && E k 3 == E' k 3))))) := Lib.hid rfl
        have HMono := Lib.hid (evsEq_mono E E' (k + 1) n (by omega))
        clear hB he he' hin hin'
        generalize E k 0 = x0 at *
        generalize E k 1 = x1 at *
        generalize E k 2 = x2 at *
        generalize E k 3 = x3 at *
        generalize E' k 0 = y0 at *
        generalize E' k 1 = y1 at *
        generalize E' k 2 = y2 at *
        generalize E' k 3 = y3 at *
        rcases hb0 : (x0 == y0) with _ | _
        · have hrel : evsEq E E' (k + 1) = false := by rw [HN.out, hb0]; simp
          have HRel := Lib.hid (HMono.out hrel)
          clear hrel HN
          go_wp2_with fail
          refine wp_region_quiet_below (by kernel_rfl) (by kernel_rfl) ?_
          repeat (go_big_quiet_step (fail))
          refine wpQuiet_nil ?_
          intro w10 hw'
          obtain ⟨⟨nq, osq⟩, hw3⟩ := hw'
          have HW := Lib.hid (HB.out.trans ((below_regrown _ nq osq).mono HB.out.size))
          rw [← hw3] at HW
          clear hw3 d0 d1 d2 d3 d0' d1' d2' d3' HB
          go_wp2_with fail
          go_ret
          exact ⟨by rw [HRel.out]; rfl, HW.out⟩
        have e0 := eq_of_beq hb0
        subst e0
        rcases hb1 : (x1 == y1) with _ | _
        · have hrel : evsEq E E' (k + 1) = false := by rw [HN.out, hb1]; simp
          have HRel := Lib.hid (HMono.out hrel)
          clear hrel HN
          go_wp2_with fail
          refine wp_region_quiet_below (by kernel_rfl) (by kernel_rfl) ?_
          repeat (go_big_quiet_step (fail))
          refine wpQuiet_nil ?_
          intro w10 hw'
          obtain ⟨⟨nq, osq⟩, hw3⟩ := hw'
          have HW := Lib.hid (HB.out.trans ((below_regrown _ nq osq).mono HB.out.size))
          rw [← hw3] at HW
          clear hw3 d0 d1 d2 d3 d0' d1' d2' d3' HB
          go_wp2_with fail
          go_ret
          exact ⟨by rw [HRel.out]; rfl, HW.out⟩
        have e1 := eq_of_beq hb1
        subst e1
        rcases hb2 : (x2 == y2) with _ | _
        · have hrel : evsEq E E' (k + 1) = false := by rw [HN.out, hb2]; simp
          have HRel := Lib.hid (HMono.out hrel)
          clear hrel HN
          go_wp2_with fail
          refine wp_region_quiet_below (by kernel_rfl) (by kernel_rfl) ?_
          repeat (go_big_quiet_step (fail))
          refine wpQuiet_nil ?_
          intro w10 hw'
          obtain ⟨⟨nq, osq⟩, hw3⟩ := hw'
          have HW := Lib.hid (HB.out.trans ((below_regrown _ nq osq).mono HB.out.size))
          rw [← hw3] at HW
          clear hw3 d0 d1 d2 d3 d0' d1' d2' d3' HB
          go_wp2_with fail
          go_ret
          exact ⟨by rw [HRel.out]; rfl, HW.out⟩
        have e2 := eq_of_beq hb2
        subst e2
        rcases hb3 : (x3 == y3) with _ | _
        · have hrel : evsEq E E' (k + 1) = false := by rw [HN.out, hb3]; simp
          have HRel := Lib.hid (HMono.out hrel)
          clear hrel HN
          go_wp2_with fail
          refine wp_region_quiet_below (by kernel_rfl) (by kernel_rfl) ?_
          repeat (go_big_quiet_step (fail))
          refine wpQuiet_nil ?_
          intro w10 hw'
          obtain ⟨⟨nq, osq⟩, hw3⟩ := hw'
          have HW := Lib.hid (HB.out.trans ((below_regrown _ nq osq).mono HB.out.size))
          rw [← hw3] at HW
          clear hw3 d0 d1 d2 d3 d0' d1' d2' d3' HB
          go_wp2_with fail
          go_ret
          exact ⟨by rw [HRel.out]; rfl, HW.out⟩
        have e3 := eq_of_beq hb3
        subst e3
        have hrel : evsEq E E' (k + 1) = true := by rw [HN.out, HOK.out]; simp
        have HRel := Lib.hid hrel
        clear hrel HN
        go_wp2_with fail
        refine wp_region_quiet_below (by kernel_rfl) (by kernel_rfl) ?_
        repeat (go_big_quiet_step (fail))
        refine wpQuiet_nil ?_
        intro w10 hw'
        obtain ⟨⟨nq, osq⟩, hw3⟩ := hw'
        have HW := Lib.hid (HB.out.trans ((below_regrown _ nq osq).mono HB.out.size))
        rw [← hw3] at HW
        clear hw3 d0 d1 d2 d3 d0' d1' d2' d3' HB
        go_wp2_with fail
        all_goals first | exact ⟨⟨k + 1, by omega, by go_num, HRel.out, HW.out⟩, by simp [intOf]; omega⟩ | exact ⟨k + 1, by omega, by go_num, HRel.out, HW.out⟩ | (simp [intOf]; omega) | go_roundw
      · obtain rfl : k = n := by omega
        go_wp2_with fail
        go_ret
        exact ⟨by rw [HOK.out]; rfl, hB⟩
  · have bnn : ((n : Int) == (n' : Int)) = false := by rw [beq_eq_false_iff_ne]; omega
    rw [decide_eq_false hnn, Bool.false_and]
    clear hev hev'
    go_enter Try.func64, Try.ntmps64
    go_wp2_with fail
    go_ret
    exact ⟨rfl, Below.refl _ _⟩
end Go.Proofs.Ytembppihfcclcaa
