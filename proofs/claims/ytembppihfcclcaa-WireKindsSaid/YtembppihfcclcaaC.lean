/-
  Entry: May.
-/
import Derived.Test.YtembppihfcclcaaB
namespace Go.Proofs.Ytembppihfcclcaa
set_option linter.unusedVariables false
open Go.ChangeShapes Go.WideShapes Go.ChangeAt Go.RowKit

set_option maxHeartbeats 2000000 in
theorem may_any (fr : Int) (sv : Value) (n : Nat) (E : Nat → Nat → Int) (I : Nat → Int) (w : World) (hsv : EvsV w sv n E) :
    Calls Try.prog 53 #[.agg (entL fr sv I).toArray] w fun e w' => e = .returned (.bool (mayE fr n E I)) ∧ Below w.heap.size w w' := by
  unfold mayE
  obtain ⟨a, cap, rfl, hnc, hcm, hev⟩ := hsv
  unfold maxLen at hcm
  have hA := entAt_new fr (.slice a n cap) I 37 w
  have hB := (Below.refl w.heap.size w).alloc (Nat.le_refl _) (Obj.cells (entL fr (.slice a n cap) I).toArray 37)
  have c0 := hA.z0
  by_cases h1 : fr < 0
  · have d1 : decide (0 ≤ fr) = false := decide_eq_false (by omega)
    simp only [d1, Bool.false_and]
    go_enter Try.func53, Try.ntmps53
    go_wp2_with fail
    go_ret
    exact ⟨rfl, hB⟩
  have d1 : decide (0 ≤ fr) = true := decide_eq_true (by omega)
  by_cases h2 : 1048576 ≤ fr
  · have d2 : decide (fr < 1048576) = false := decide_eq_false (by omega)
    simp only [d1, d2, Bool.false_and, Bool.and_false]
    go_enter Try.func53, Try.ntmps53
    go_wp2_with fail
    go_ret
    exact ⟨rfl, hB⟩
  have d2 : decide (fr < 1048576) = true := decide_eq_true (by omega)
  simp only [d1, d2, Bool.true_and]
  have c1 := hA.z1
  have HEV := Lib.hid hev
  clear hev
  go_enter Try.func53, Try.ntmps53
  go_wp2_with fail
  clear d1 d2 c0 c1
  have HA := Lib.hid hA
  have HB := Lib.hid hB
  have hlt0 : w.heap.size < (w.alloc (Obj.cells (entL fr (.slice a n cap) I).toArray 37)).heap.size := hA.lt
  clear hA hB
  generalize w.alloc (Obj.cells (entL fr (.slice a n cap) I).toArray 37) = w1 at *
  go_loopw [17] (fun i wr => ∃ k : Nat, k ≤ n ∧ i = .int .i64 k ∧ evsOk E k = true ∧ EntAt wr w.heap.size 0 fr (.slice a n cap) I ∧ Below w.heap.size w wr) (fun i _ => n - (intOf i).toNat)
  case atStart => exact ⟨0, by omega, rfl, rfl, HA.out, HB.out⟩
  case round =>
    obtain ⟨k, hk, rfl, hok, hA, hB⟩ := hrel
    clear HA HB
    have HA := Lib.hid hA
    have HB := Lib.hid hB
    have HOK := Lib.hid hok
    clear hok
    by_cases hlt : k < n
    · obtain ⟨b, o, rfl, hbl, hin⟩ := HEV.out (by omega)
      have he := hin.block (hB.block b hbl)
      have d0 := he.k k hlt
      have d1 := he.s k hlt
      have d2 := he.g k hlt
      have d3 := he.p k hlt
      have HE := Lib.hid he
      have HN : Hid (evsOk E (k + 1) = (evsOk E k && (mayEvB (E k 0) (E k 1) (E k 2) (E k 3) && (k == 0 || !wrongEv (E (k - 1) 0) (E (k - 1) 1) (E k 0) (E k 1))))) := Lib.hid rfl
      have HMono := Lib.hid (evsOk_mono E (k + 1) n (by omega))
      clear he hin hB hA
      go_wp2_with fail
      refine (mayEv_any (E k 0) (E k 1) (E k 2) (E k 3) _).mono ?_
      rintro e w2 ⟨rfl, hb2⟩
      have q0 : w2.cell? ⟨wr.heap.size, 0, none⟩ = some (.int .i64 (E k 0)) := (hb2.cell (p := ⟨wr.heap.size, 0, none⟩) (by simp)).trans (by rw [World.cell?_alloc_new]; rfl)
      have q1 : w2.cell? ⟨wr.heap.size, 1, none⟩ = some (.int .i64 (E k 1)) := (hb2.cell (p := ⟨wr.heap.size, 1, none⟩) (by simp)).trans (by rw [World.cell?_alloc_new]; rfl)
      have HA2 := Lib.hid ((HA.out.block (Below.heap_alloc wr (Obj.cells #[.int .i64 (E k 0), .int .i64 (E k 1), .int .i64 (E k 2), .int .i64 (E k 3)] 43) w.heap.size HA.out.lt)).block (hb2.block _ (by have := HA.out.lt; simp; omega)))
      have HB2 := Lib.hid ((HB.out.alloc HB.out.size (Obj.cells #[.int .i64 (E k 0), .int .i64 (E k 1), .int .i64 (E k 2), .int .i64 (E k 3)] 43)).trans (hb2.mono (by have := HB.out.size; simp; omega)))
      have HE2 := Lib.hid ((HE.out.block (Below.heap_alloc wr (Obj.cells #[.int .i64 (E k 0), .int .i64 (E k 1), .int .i64 (E k 2), .int .i64 (E k 3)] 43) b (by have := HB.out.size; omega))).block (hb2.block _ (by have := HB.out.size; simp; omega)))
      have l2 : wr.heap.size < w2.heap.size := block_of_cell q0
      clear hb2 d0 d1 d2 d3 HA HB HE
      generalize hT : wr.heap.size = T at *
      clear hT wr
      cases hm : mayEvB (E k 0) (E k 1) (E k 2) (E k 3) with
      | false =>
        have hrel : evsOk E (k + 1) = false := by rw [HN.out, HOK.out, hm]; rfl
        have HRel := Lib.hid (HMono.out hrel)
        clear hm hrel HN
        go_wp2_with fail
        go_ret
        exact ⟨by rw [HRel.out]; rfl, HB2.out⟩
      | true =>
        have HM := Lib.hid hm
        clear hm
        rcases k with _ | m
        · have hrel : evsOk E (0 + 1) = true := by rw [HN.out, HOK.out, HM.out]; rfl
          have HRel := Lib.hid hrel
          clear hrel HN
          go_wp2_with fail
          all_goals first | exact ⟨⟨0 + 1, by omega, by go_num, HRel.out, HA2.out, HB2.out⟩, by simp [intOf]; omega⟩ | exact ⟨0 + 1, by omega, by go_num, HRel.out, HA2.out, HB2.out⟩ | (simp [intOf]; omega) | go_roundw
        · have f0 := HE2.out.k m (by omega)
          have f1 := HE2.out.s m (by omega)
          have f2 := HE2.out.g m (by omega)
          have f3 := HE2.out.p m (by omega)
          have c1 := HA2.out.z1
          have hmi : (m : Int) < (n : Int) := by omega
          have hmn : m < n := by omega
          have hnext : evsOk E (m + 1 + 1) = !wrongEv (E m 0) (E m 1) (E (m + 1) 0) (E (m + 1) 1) := by rw [HN.out, HOK.out, HM.out]; rfl
          have HNext := Lib.hid hnext
          clear hnext HN HM
          have mnz : ¬ ((m : Int) + 1 = 0) := by omega
          generalize E (m + 1) 0 = ek at *
          generalize E (m + 1) 1 = es at *
          generalize E m 0 = fk at *
          generalize E m 1 = fs at *
          by_cases h3 : fk < ek
          · have hrel : evsOk E (m + 1 + 1) = false := by rw [HNext.out]; unfold wrongEv; rw [decide_eq_true h3]; rfl
            have HRel := Lib.hid (HMono.out hrel)
            have d3 := decide_eq_true h3
            clear hrel HNext
            go_wp2_with fail
            go_ret
            exact ⟨by rw [HRel.out]; rfl, HB2.out.alloc HB2.out.size _⟩
          · have d3 := decide_eq_false h3
            by_cases h4 : fk = ek
            · subst h4
              have b4 : (fk == fk) = true := by simp
              by_cases h5 : es ≤ fs
              · have hrel : evsOk E (m + 1 + 1) = false := by rw [HNext.out]; unfold wrongEv; rw [d3, decide_eq_true rfl, decide_eq_true h5]; rfl
                have HRel := Lib.hid (HMono.out hrel)
                have d5 := decide_eq_true h5
                clear hrel HNext
                go_wp2_with fail
                go_ret
                exact ⟨by rw [HRel.out]; rfl, HB2.out.alloc HB2.out.size _⟩
              · have hrel : evsOk E (m + 1 + 1) = true := by rw [HNext.out]; unfold wrongEv; rw [d3, decide_eq_true rfl, decide_eq_false h5]; rfl
                have HRel := Lib.hid hrel
                have d5 := decide_eq_false h5
                clear hrel HNext
                go_wp2_with fail
                all_goals first | exact ⟨⟨m + 1 + 1, by omega, by go_num, HRel.out, HA2.out.block (Below.heap_alloc _ _ _ HA2.out.lt), HB2.out.alloc HB2.out.size _⟩, by simp [intOf]; omega⟩ | exact ⟨m + 1 + 1, by omega, by go_num, HRel.out, HA2.out.block (Below.heap_alloc _ _ _ HA2.out.lt), HB2.out.alloc HB2.out.size _⟩ | (simp [intOf]; omega) | go_roundw
            · have b4 : (fk == ek) = false := by simpa using h4
              have hrel : evsOk E (m + 1 + 1) = true := by rw [HNext.out]; unfold wrongEv; rw [d3, decide_eq_false h4]; rfl
              have HRel := Lib.hid hrel
              clear hrel HNext
              go_wp2_with fail
              all_goals first | exact ⟨⟨m + 1 + 1, by omega, by go_num, HRel.out, HA2.out.block (Below.heap_alloc _ _ _ HA2.out.lt), HB2.out.alloc HB2.out.size _⟩, by simp [intOf]; omega⟩ | exact ⟨m + 1 + 1, by omega, by go_num, HRel.out, HA2.out.block (Below.heap_alloc _ _ _ HA2.out.lt), HB2.out.alloc HB2.out.size _⟩ | (simp [intOf]; omega) | go_roundw
    · obtain rfl : k = n := by omega
      clear hB hA
      go_wp2_with fail
      refine (contInp (some ⟨w.heap.size, 2, none⟩) 8 8 (by decide) I _ (fun _ => ⟨_, _, rfl, HA.out.lt, HA.out.inps⟩)).mono ?_
      rintro e w2 ⟨rfl, hb2⟩
      have HB2 := Lib.hid (HB.out.trans (hb2.mono HB.out.size))
      clear hb2
      go_wp2_with fail
      go_ret
      exact ⟨by rw [HOK.out]; simp, HB2.out⟩
end Go.Proofs.Ytembppihfcclcaa
