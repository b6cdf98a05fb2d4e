/-
  Entry: the reference's SameEntry; Few; rows of entries that came in.
-/
import Derived.Test.YtembppihfcclcaaG05x
namespace Go.Proofs.Ytembppihfcclcaa
set_option linter.unusedVariables false
open Go.ChangeShapes Go.WideShapes Go.ChangeAt Go.RowKit

theorem few_any (fr : Int) (sv : Value) (n : Nat) (E : Nat → Nat → Int) (I : Nat → Int) (w : World) (h : EvsV w sv n E) :
    Calls Try.prog 36 #[.agg (entL fr sv I).toArray] w fun e w' => e = .returned (.bool (decide (n ≤ 20))) ∧ Below w.heap.size w w' := by
  obtain ⟨a, cap, rfl, -⟩ := h
  have hA := entAt_new fr (.slice a n cap) I 37 w
  have hB := (Below.refl w.heap.size w).alloc (Nat.le_refl _) (Obj.cells (entL fr (.slice a n cap) I).toArray 37)
  have c1 := hA.z1
  have hd : decide ((n : Int) ≤ 20) = decide (n ≤ 20) := by rw [decide_eq_decide]; omega
  go_enter Try.func36, Try.ntmps36
  go_wp2
  go_ret
  exact ⟨by rw [← hd]; rfl, hB⟩
set_option maxHeartbeats 1000000 in
theorem sameRef_any (fr : Int) (sv : Value) (n : Nat) (E : Nat → Nat → Int) (I : Nat → Int) (fr' : Int) (sv' : Value) (n' : Nat) (E' : Nat → Nat → Int) (I' : Nat → Int) (w : World) (h : EvsV w sv n E) (h' : EvsV w sv' n' E') :
    Calls Try.prog 63 #[.agg (entL fr sv I).toArray, .agg (entL fr' sv' I').toArray] w fun e w' => e = .returned (.bool (sameB fr n E I fr' n' E' I')) ∧ Below w.heap.size w w' := by
  unfold sameB
  have hA1 := entAt_new fr sv I 37 w
  have hB1 := (Below.refl w.heap.size w).alloc (Nat.le_refl _) (Obj.cells (entL fr sv I).toArray 37)
  have hA2 := entAt_new fr' sv' I' 37 (w.alloc (Obj.cells (entL fr sv I).toArray 37))
  have hA1' := hA1.block (Below.heap_alloc _ (Obj.cells (entL fr' sv' I').toArray 37) _ hA1.lt)
  have hB2 := hB1.alloc hB1.size (Obj.cells (entL fr' sv' I').toArray 37)
  have hsz : (w.alloc (Obj.cells (entL fr sv I).toArray 37)).heap.size = w.heap.size + 1 := by simp
  rw [hsz] at hA2
  obtain ⟨a, cap, rfl, hnc, hcm, hev⟩ := h
  obtain ⟨a', cap', rfl, hnc', hcm', hev'⟩ := h'
  unfold maxLen at hcm hcm'
  clear hA1 hB1 hsz
  have c0 := hA1'.z0
  have c1 := hA1'.z1
  have c0' := hA2.z0
  have c1' := hA2.z1
  rcases hf : (fr == fr') with _ | _
  · have hf' : (fr != fr') = true := by simpa using hf
    rw [Bool.false_and]
    clear hev hev'
    go_enter Try.func63, Try.ntmps63
    go_wp2_with fail
    go_ret
    exact ⟨rfl, hB2⟩
  obtain rfl := eq_of_beq hf
  have hf' : (fr != fr) = false := by simp
  rw [Bool.true_and]
  have HQ := eq_inps I I'
  have HA := Lib.hid hA1'
  have HA' := Lib.hid hA2
  have HB := Lib.hid hB2
  have HEV := Lib.hid hev
  have HEV' := Lib.hid hev'
  clear hA1' hA2 hB2 hev hev' hf
  go_enter Try.func63, Try.ntmps63
  rcases hi : inpsEq I I' with _ | _
  · rw [hi] at HQ
    go_wp2_with (first | (refine wpList_load_g (by rfl) 35 _ rfl w.heap.size 2 rfl _ _ HA.out.inpRange0 Try.underlying35 rfl (size_inps _) ?_) | (refine wpList_load_g (by rfl) 35 _ rfl (w.heap.size + 1) 2 rfl _ _ HA'.out.inpRange0 Try.underlying35 rfl (size_inps _) ?_))
    go_ret
    exact ⟨rfl, HB.out⟩
  rw [hi] at HQ
  by_cases hnn : n = n'
  · subst hnn
    have bnn : ((n : Int) != (n : Int)) = false := by simp
    rw [decide_eq_true rfl, Bool.true_and, Bool.true_and]
    go_wp2_with (first | (refine wpList_load_g (by rfl) 35 _ rfl w.heap.size 2 rfl _ _ HA.out.inpRange0 Try.underlying35 rfl (size_inps _) ?_) | (refine wpList_load_g (by rfl) 35 _ rfl (w.heap.size + 1) 2 rfl _ _ HA'.out.inpRange0 Try.underlying35 rfl (size_inps _) ?_))
    clear c0 c1 c0' c1' HQ
    have hlt0 := HA.out.lt
    have hlt1 := HA'.out.lt
    generalize (w.alloc (Obj.cells (entL fr (.slice a n cap) I).toArray 37)).alloc (Obj.cells (entL fr (.slice a' n cap') I').toArray 37) = w1 at *
    go_loopw [5] (fun i wr => ∃ k : Nat, k ≤ n ∧ i = .int .i64 k ∧ evsEq E E' k = true ∧ EntAt wr w.heap.size 0 fr (.slice a n cap) I ∧ EntAt wr (w.heap.size + 1) 0 fr (.slice a' n cap') I' ∧ Below w.heap.size w wr) (fun i _ => n - (intOf i).toNat)
    case atStart => exact ⟨0, by omega, rfl, rfl, HA.out, HA'.out, HB.out⟩
    case round =>
      obtain ⟨k, hk, rfl, hok, hA, hA', hB⟩ := hrel
      clear HA HA' HB
      have HA := Lib.hid hA
      have HA' := Lib.hid hA'
      have HB := Lib.hid hB
      have HOK := Lib.hid hok
      have z1 := hA.z1
      have z1a := cell_regrown hA.z1
      have z1b := cell_regrown hA'.z1
      clear hok hA hA'
      by_cases hlt : k < n
      · obtain ⟨b, o, rfl, hbl, hin⟩ := HEV.out (by omega)
        obtain ⟨b', o', rfl, hbl', hin'⟩ := HEV'.out (by omega)
        have he := hin.block (hB.block b hbl)
        have he' := hin'.block (hB.block b' hbl')
        have d0 := cell_regrown (he.k k hlt)
        have d1 := cell_regrown (he.s k hlt)
        have d2 := cell_regrown (he.g k hlt)
        have d3 := cell_regrown (he.p k hlt)
        have d0' := cell_regrown (he'.k k hlt)
        have d1' := cell_regrown (he'.s k hlt)
        have d2' := cell_regrown (he'.g k hlt)
        have d3' := cell_regrown (he'.p k hlt)
        have hki : (k : Int) < (n : Int) := by omega
        have HN : Hid (evsEq E E' (k + 1) = (evsEq E E' k && (E k 0 == E' k 0 && (E k 1 == E' k 1 && (E k 2 == E' k 2 && E k 3 == E' k 3))))) := Lib.hid rfl
        have HMono := Lib.hid (evsEq_mono E E' (k + 1) n (by omega))
        clear hB he he' hin hin'
        generalize E k 0 = x0 at *
        generalize E k 1 = x1 at *
        generalize E k 2 = x2 at *
        generalize E k 3 = x3 at *
        generalize E' k 0 = y0 at *
        generalize E' k 1 = y1 at *
        generalize E' k 2 = y2 at *
        generalize E' k 3 = y3 at *
        rcases hb0 : (x0 == y0) with _ | _
        · have hrel : evsEq E E' (k + 1) = false := by rw [HN.out, hb0]; simp
          have HRel := Lib.hid (HMono.out hrel)
          clear hrel HN
          go_wp2_with fail
          refine wp_region_quiet_below (by kernel_rfl) (by kernel_rfl) ?_
          repeat (go_big_quiet_step (fail))
          refine wpQuiet_nil ?_
          intro w10 hw'
          obtain ⟨⟨nq, osq⟩, hw3⟩ := hw'
          have HW := Lib.hid (HB.out.trans ((below_regrown _ nq osq).mono HB.out.size))
          have HWA := Lib.hid (HA.out.block ((below_regrown _ nq osq).block _ HA.out.lt))
          have HWB := Lib.hid (HA'.out.block ((below_regrown _ nq osq).block _ HA'.out.lt))
          rw [← hw3] at HW HWA HWB
          clear hw3 d0 d1 d2 d3 d0' d1' d2' d3' HB HA HA' z1 z1a z1b
          go_wp2_with fail
          go_ret
          exact ⟨by rw [HRel.out]; rfl, HW.out⟩
        have e0 := eq_of_beq hb0
        subst e0
        rcases hb1 : (x1 == y1) with _ | _
        · have hrel : evsEq E E' (k + 1) = false := by rw [HN.out, hb1]; simp
          have HRel := Lib.hid (HMono.out hrel)
          clear hrel HN
          go_wp2_with fail
          refine wp_region_quiet_below (by kernel_rfl) (by kernel_rfl) ?_
          repeat (go_big_quiet_step (fail))
          refine wpQuiet_nil ?_
          intro w10 hw'
          obtain ⟨⟨nq, osq⟩, hw3⟩ := hw'
          have HW := Lib.hid (HB.out.trans ((below_regrown _ nq osq).mono HB.out.size))
          have HWA := Lib.hid (HA.out.block ((below_regrown _ nq osq).block _ HA.out.lt))
          have HWB := Lib.hid (HA'.out.block ((below_regrown _ nq osq).block _ HA'.out.lt))
          rw [← hw3] at HW HWA HWB
          clear hw3 d0 d1 d2 d3 d0' d1' d2' d3' HB HA HA' z1 z1a z1b
          go_wp2_with fail
          go_ret
          exact ⟨by rw [HRel.out]; rfl, HW.out⟩
        have e1 := eq_of_beq hb1
        subst e1
        rcases hb2 : (x2 == y2) with _ | _
        · have hrel : evsEq E E' (k + 1) = false := by rw [HN.out, hb2]; simp
          have HRel := Lib.hid (HMono.out hrel)
          clear hrel HN
          go_wp2_with fail
          refine wp_region_quiet_below (by kernel_rfl) (by kernel_rfl) ?_
          repeat (go_big_quiet_step (fail))
          refine wpQuiet_nil ?_
          intro w10 hw'
          obtain ⟨⟨nq, osq⟩, hw3⟩ := hw'
          have HW := Lib.hid (HB.out.trans ((below_regrown _ nq osq).mono HB.out.size))
          have HWA := Lib.hid (HA.out.block ((below_regrown _ nq osq).block _ HA.out.lt))
          have HWB := Lib.hid (HA'.out.block ((below_regrown _ nq osq).block _ HA'.out.lt))
          rw [← hw3] at HW HWA HWB
          clear hw3 d0 d1 d2 d3 d0' d1' d2' d3' HB HA HA' z1 z1a z1b
          go_wp2_with fail
          go_ret
          exact ⟨by rw [HRel.out]; rfl, HW.out⟩
        have e2 := eq_of_beq hb2
        subst e2
        rcases hb3 : (x3 == y3) with _ | _
        · have hrel : evsEq E E' (k + 1) = false := by rw [HN.out, hb3]; simp
          have HRel := Lib.hid (HMono.out hrel)
          clear hrel HN
          go_wp2_with fail
          refine wp_region_quiet_below (by kernel_rfl) (by kernel_rfl) ?_
          repeat (go_big_quiet_step (fail))
          refine wpQuiet_nil ?_
          intro w10 hw'
          obtain ⟨⟨nq, osq⟩, hw3⟩ := hw'
          have HW := Lib.hid (HB.out.trans ((below_regrown _ nq osq).mono HB.out.size))
          have HWA := Lib.hid (HA.out.block ((below_regrown _ nq osq).block _ HA.out.lt))
          have HWB := Lib.hid (HA'.out.block ((below_regrown _ nq osq).block _ HA'.out.lt))
          rw [← hw3] at HW HWA HWB
          clear hw3 d0 d1 d2 d3 d0' d1' d2' d3' HB HA HA' z1 z1a z1b
          go_wp2_with fail
          go_ret
          exact ⟨by rw [HRel.out]; rfl, HW.out⟩
        have e3 := eq_of_beq hb3
        subst e3
        have hrel : evsEq E E' (k + 1) = true := by rw [HN.out, HOK.out]; simp
        have HRel := Lib.hid hrel
        clear hrel HN
        go_wp2_with fail
        refine wp_region_quiet_below (by kernel_rfl) (by kernel_rfl) ?_
        repeat (go_big_quiet_step (fail))
        refine wpQuiet_nil ?_
        intro w10 hw'
        obtain ⟨⟨nq, osq⟩, hw3⟩ := hw'
        have HW := Lib.hid (HB.out.trans ((below_regrown _ nq osq).mono HB.out.size))
        have HWA := Lib.hid (HA.out.block ((below_regrown _ nq osq).block _ HA.out.lt))
        have HWB := Lib.hid (HA'.out.block ((below_regrown _ nq osq).block _ HA'.out.lt))
        rw [← hw3] at HW HWA HWB
        clear hw3 d0 d1 d2 d3 d0' d1' d2' d3' HB HA HA' z1 z1a z1b
        go_wp2_with fail
        all_goals first | exact ⟨⟨k + 1, by omega, by go_num, HRel.out, HWA.out, HWB.out, HW.out⟩, by simp [intOf]; omega⟩ | exact ⟨k + 1, by omega, by go_num, HRel.out, HWA.out, HWB.out, HW.out⟩ | (simp [intOf]; omega) | go_roundw
      · obtain rfl : k = n := by omega
        clear hB
        go_wp2_with fail
        go_ret
        exact ⟨by rw [HOK.out]; rfl, HB.out⟩
  · have bnn : ((n : Int) != (n' : Int)) = true := by rw [bne_iff_ne]; omega
    rw [decide_eq_false hnn, Bool.false_and, Bool.and_false]
    go_wp2_with (first | (refine wpList_load_g (by rfl) 35 _ rfl w.heap.size 2 rfl _ _ HA.out.inpRange0 Try.underlying35 rfl (size_inps _) ?_) | (refine wpList_load_g (by rfl) 35 _ rfl (w.heap.size + 1) 2 rfl _ _ HA'.out.inpRange0 Try.underlying35 rfl (size_inps _) ?_))
    go_ret
    exact ⟨rfl, HB.out⟩
end Go.Proofs.Ytembppihfcclcaa
