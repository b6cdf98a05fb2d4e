/-
  Entry: the reference's MayEntry.
-/
import Derived.Test.YtembppihfcclcaaG07x
namespace Go.Proofs.Ytembppihfcclcaa
set_option linter.unusedVariables false
open Go.ChangeShapes Go.WideShapes Go.ChangeAt Go.RowKit

set_option linter.unusedSimpArgs false
def kS (E : Nat → Nat → Int) (k : Nat) : Int := if k = 0 then 2 else E (k - 1) 0
def sS (E : Nat → Nat → Int) (k : Nat) : Int := if k = 0 then -1 else E (k - 1) 1
def okR (kd sl x0 x1 x2 x3 : Int) : Prop := (x0 = 1 ∧ kd = 2 ∧ 0 ≤ x1 ∨ x0 = kd ∧ ¬ (x0 = 1 ∧ kd = 2) ∧ sl < x1) ∧ x1 < 8 ∧ 1 ≤ x2 ∧ x2 ≤ 60000 ∧ 0 ≤ x3 ∧ x3 < 12
theorem ev_next (E : Nat → Nat → Int) (k : Nat) (h : evsOk E k = true) : (evsOk E (k + 1) = true ↔ okR (kS E k) (sS E k) (E k 0) (E k 1) (E k 2) (E k 3)) ∧ (kS E k = 1 ∨ kS E k = 2) ∧ -1 ≤ sS E k := by
  have e1 : evsOk E (k + 1) = (evsOk E k && (mayEvB (E k 0) (E k 1) (E k 2) (E k 3) && (k == 0 || !wrongEv (E (k - 1) 0) (E (k - 1) 1) (E k 0) (E k 1)))) := rfl
  rw [e1, h, Bool.true_and, Bool.and_eq_true, mayEv_iff]
  cases k with
  | zero =>
    have k0 : kS E 0 = 2 := rfl
    have s0 : sS E 0 = -1 := rfl
    rw [k0, s0]
    unfold okR
    refine ⟨⟨fun h => by have := h.1; omega, fun h => ⟨by omega, rfl⟩⟩, by omega, by omega⟩
  | succ m =>
    unfold okR kS sS
    have hr := (evs_rank E (m + 1) h m (by omega)).1
    simp only [Nat.add_sub_cancel, Nat.succ_ne_zero, if_false, Nat.add_one_ne_zero]
    have e2 : ((m + 1 == 0) || !wrongEv (E m 0) (E m 1) (E (m + 1) 0) (E (m + 1) 1)) = true ↔ ¬ (E m 0 < E (m + 1) 0 ∨ (E m 0 = E (m + 1) 0 ∧ E (m + 1) 1 ≤ E m 1)) := by
      unfold wrongEv
      simp
      intro _
      constructor <;> intro h <;> omega
    rw [e2]
    refine ⟨⟨fun h => by omega, fun h => ⟨by omega, by omega⟩⟩, by omega, by omega⟩
set_option maxHeartbeats 4000000 in
theorem mayRef_any (fr : Int) (sv : Value) (n : Nat) (E : Nat → Nat → Int) (I : Nat → Int) (w : World) (hsv : EvsV w sv n E) (hb : EntB fr n E I) :
    Calls Try.prog 13 #[.agg (entL fr sv I).toArray] w fun e w' => e = .returned (.bool (mayE fr n E I)) ∧ Below w.heap.size w w' := by
  unfold mayE
  obtain ⟨a, cap, rfl, hnc, hcm, hev⟩ := hsv
  unfold maxLen at hcm
  have hA := entAt_new fr (.slice a n cap) I 37 w
  have hB := (Below.refl w.heap.size w).alloc (Nat.le_refl _) (Obj.cells (entL fr (.slice a n cap) I).toArray 37)
  have c0 := hA.z0
  have HXY := Lib.hid hb.xy
  clear hb
  by_cases h1 : fr < 0
  · have d1 : decide (0 ≤ fr) = false := decide_eq_false (by omega)
    simp only [d1, Bool.false_and]
    go_enter Try.func13, Try.ntmps13
    go_wp2_with fail
    go_ret
    exact ⟨rfl, hB⟩
  have d1 : decide (0 ≤ fr) = true := decide_eq_true (by omega)
  by_cases h2 : 1048576 ≤ fr
  · have d2 : decide (fr < 1048576) = false := decide_eq_false (by omega)
    simp only [d1, d2, Bool.false_and, Bool.and_false]
    go_enter Try.func13, Try.ntmps13
    go_wp2_with fail
    go_ret
    exact ⟨rfl, hB⟩
  have d2 : decide (fr < 1048576) = true := decide_eq_true (by omega)
  simp only [d1, d2, Bool.true_and]
  have HEV := Lib.hid hev
  clear hev
  go_enter Try.func13, Try.ntmps13
  go_wp2_with fail
  clear d1 d2 c0
  have HA := Lib.hid hA
  have HB := Lib.hid hB
  clear hA hB
  generalize w.alloc (Obj.cells (entL fr (.slice a n cap) I).toArray 37) = w1 at *
  go_loopw [3, 4, 5] (fun kd sl i wr => ∃ k : Nat, k ≤ n ∧ i = .int .i64 k ∧ evsOk E k = true ∧ kd = .int .i64 (kS E k) ∧ sl = .int .i64 (sS E k) ∧ EntAt wr w.heap.size 0 fr (.slice a n cap) I ∧ Below w.heap.size w wr) (fun _ _ i _ => n - (intOf i).toNat)
  case atStart => exact ⟨0, by omega, rfl, rfl, rfl, rfl, HA.out, HB.out⟩
  case round =>
    obtain ⟨k, hk, rfl, hok, rfl, rfl, hA, hB⟩ := hrel
    clear HA HB
    have HA := Lib.hid hA
    have HB := Lib.hid hB
    have HOK := Lib.hid hok
    have c1 := hA.z1
    clear hA
    by_cases hlt : k < n
    · obtain ⟨b, o, rfl, hbl, hin⟩ := HEV.out (by omega)
      have he := hin.block (hB.block b hbl)
      have d0 := he.k k hlt
      have d1 := he.s k hlt
      have d2 := he.g k hlt
      have d3 := he.p k hlt
      have hki : (k : Int) < (n : Int) := by omega
      have HMono := Lib.hid (evsOk_mono E (k + 1) n (by omega))
      obtain ⟨hn, hkd, hsl⟩ := ev_next E k hok
      have HN := Lib.hid hn
      have HK : Hid (kS E (k + 1) = E k 0) := Lib.hid rfl
      have HS : Hid (sS E (k + 1) = E k 1) := Lib.hid rfl
      clear hB he hin hok hn
      generalize E k 0 = x0 at *
      generalize E k 1 = x1 at *
      generalize E k 2 = x2 at *
      generalize E k 3 = x3 at *
      generalize kS E k = kd at *
      generalize sS E k = sl at *
      replace HA := Lib.hid (HA.out.block (Below.heap_alloc wr (Obj.cells #[.int .i64 x0, .int .i64 x1, .int .i64 x2, .int .i64 x3] 43) w.heap.size HA.out.lt))
      replace HB := Lib.hid (HB.out.alloc HB.out.size (Obj.cells #[.int .i64 x0, .int .i64 x1, .int .i64 x2, .int .i64 x3] 43))
      by_cases hA1 : x0 = 1
      · subst hA1
        rcases hkd with rfl | rfl
        · skip
          by_cases hc : x1 ≤ sl
          · have hd := decide_eq_true hc
            have HRel := Lib.hid (HMono.out (Bool.eq_false_iff.2 (fun h => absurd (HN.out.1 h) (by unfold okR; omega))))
            clear HN HMono HOK
            go_wp2_with fail
            go_ret
            exact ⟨by rw [HRel.out]; rfl, HB.out⟩
          have hd7 := decide_eq_false hc
          have hh8 := hc
          clear hc
          by_cases hc : 8 ≤ x1
          · have hd := decide_eq_true hc
            have HRel := Lib.hid (HMono.out (Bool.eq_false_iff.2 (fun h => absurd (HN.out.1 h) (by unfold okR; omega))))
            clear HN HMono HOK
            go_wp2_with fail
            go_ret
            exact ⟨by rw [HRel.out]; rfl, HB.out⟩
          have hd17 := decide_eq_false hc
          have hh18 := hc
          clear hc
          by_cases hc : x2 < 1
          · have hd := decide_eq_true hc
            have HRel := Lib.hid (HMono.out (Bool.eq_false_iff.2 (fun h => absurd (HN.out.1 h) (by unfold okR; omega))))
            clear HN HMono HOK
            go_wp2_with fail
            go_ret
            exact ⟨by rw [HRel.out]; rfl, HB.out⟩
          have hd27 := decide_eq_false hc
          have hh28 := hc
          clear hc
          by_cases hc : 60000 < x2
          · have hd := decide_eq_true hc
            have HRel := Lib.hid (HMono.out (Bool.eq_false_iff.2 (fun h => absurd (HN.out.1 h) (by unfold okR; omega))))
            clear HN HMono HOK
            go_wp2_with fail
            go_ret
            exact ⟨by rw [HRel.out]; rfl, HB.out⟩
          have hd37 := decide_eq_false hc
          have hh38 := hc
          clear hc
          by_cases hc : x3 < 0
          · have hd := decide_eq_true hc
            have HRel := Lib.hid (HMono.out (Bool.eq_false_iff.2 (fun h => absurd (HN.out.1 h) (by unfold okR; omega))))
            clear HN HMono HOK
            go_wp2_with fail
            go_ret
            exact ⟨by rw [HRel.out]; rfl, HB.out⟩
          have hd47 := decide_eq_false hc
          have hh48 := hc
          clear hc
          by_cases hc : 12 ≤ x3
          · have hd := decide_eq_true hc
            have HRel := Lib.hid (HMono.out (Bool.eq_false_iff.2 (fun h => absurd (HN.out.1 h) (by unfold okR; omega))))
            clear HN HMono HOK
            go_wp2_with fail
            go_ret
            exact ⟨by rw [HRel.out]; rfl, HB.out⟩
          have hd57 := decide_eq_false hc
          have hh58 := hc
          clear hc
          have HRel := Lib.hid (HN.out.2 (by unfold okR; omega))
          clear HN HMono HOK
          go_wp2_with fail
          all_goals first | exact ⟨⟨k + 1, by omega, by go_num, HRel.out, by rw [HK.out], by rw [HS.out], HA.out, HB.out⟩, by simp [intOf]; omega⟩ | exact ⟨k + 1, by omega, by go_num, HRel.out, by rw [HK.out], by rw [HS.out], HA.out, HB.out⟩ | (simp [intOf]; omega) | go_roundw
        · skip
          by_cases hc : x1 ≤ -1
          · have hd := decide_eq_true hc
            have HRel := Lib.hid (HMono.out (Bool.eq_false_iff.2 (fun h => absurd (HN.out.1 h) (by unfold okR; omega))))
            clear HN HMono HOK
            go_wp2_with fail
            go_ret
            exact ⟨by rw [HRel.out]; rfl, HB.out⟩
          have hd7 := decide_eq_false hc
          have hh8 := hc
          clear hc
          by_cases hc : 8 ≤ x1
          · have hd := decide_eq_true hc
            have HRel := Lib.hid (HMono.out (Bool.eq_false_iff.2 (fun h => absurd (HN.out.1 h) (by unfold okR; omega))))
            clear HN HMono HOK
            go_wp2_with fail
            go_ret
            exact ⟨by rw [HRel.out]; rfl, HB.out⟩
          have hd17 := decide_eq_false hc
          have hh18 := hc
          clear hc
          by_cases hc : x2 < 1
          · have hd := decide_eq_true hc
            have HRel := Lib.hid (HMono.out (Bool.eq_false_iff.2 (fun h => absurd (HN.out.1 h) (by unfold okR; omega))))
            clear HN HMono HOK
            go_wp2_with fail
            go_ret
            exact ⟨by rw [HRel.out]; rfl, HB.out⟩
          have hd27 := decide_eq_false hc
          have hh28 := hc
          clear hc
          by_cases hc : 60000 < x2
          · have hd := decide_eq_true hc
            have HRel := Lib.hid (HMono.out (Bool.eq_false_iff.2 (fun h => absurd (HN.out.1 h) (by unfold okR; omega))))
            clear HN HMono HOK
            go_wp2_with fail
            go_ret
            exact ⟨by rw [HRel.out]; rfl, HB.out⟩
          have hd37 := decide_eq_false hc
          have hh38 := hc
          clear hc
          by_cases hc : x3 < 0
          · have hd := decide_eq_true hc
            have HRel := Lib.hid (HMono.out (Bool.eq_false_iff.2 (fun h => absurd (HN.out.1 h) (by unfold okR; omega))))
            clear HN HMono HOK
            go_wp2_with fail
            go_ret
            exact ⟨by rw [HRel.out]; rfl, HB.out⟩
          have hd47 := decide_eq_false hc
          have hh48 := hc
          clear hc
          by_cases hc : 12 ≤ x3
          · have hd := decide_eq_true hc
            have HRel := Lib.hid (HMono.out (Bool.eq_false_iff.2 (fun h => absurd (HN.out.1 h) (by unfold okR; omega))))
            clear HN HMono HOK
            go_wp2_with fail
            go_ret
            exact ⟨by rw [HRel.out]; rfl, HB.out⟩
          have hd57 := decide_eq_false hc
          have hh58 := hc
          clear hc
          have HRel := Lib.hid (HN.out.2 (by unfold okR; omega))
          clear HN HMono HOK
          go_wp2_with fail
          all_goals first | exact ⟨⟨k + 1, by omega, by go_num, HRel.out, by rw [HK.out], by rw [HS.out], HA.out, HB.out⟩, by simp [intOf]; omega⟩ | exact ⟨k + 1, by omega, by go_num, HRel.out, by rw [HK.out], by rw [HS.out], HA.out, HB.out⟩ | (simp [intOf]; omega) | go_roundw
      · have hx1 : (x0 == 1) = false := by simpa using hA1
        by_cases hA2 : x0 = kd
        · subst hA2
          obtain rfl : x0 = 2 := by omega
          by_cases hc : x1 ≤ sl
          · have hd := decide_eq_true hc
            have HRel := Lib.hid (HMono.out (Bool.eq_false_iff.2 (fun h => absurd (HN.out.1 h) (by unfold okR; omega))))
            clear HN HMono HOK
            go_wp2_with fail
            go_ret
            exact ⟨by rw [HRel.out]; rfl, HB.out⟩
          have hd7 := decide_eq_false hc
          have hh8 := hc
          clear hc
          by_cases hc : 8 ≤ x1
          · have hd := decide_eq_true hc
            have HRel := Lib.hid (HMono.out (Bool.eq_false_iff.2 (fun h => absurd (HN.out.1 h) (by unfold okR; omega))))
            clear HN HMono HOK
            go_wp2_with fail
            go_ret
            exact ⟨by rw [HRel.out]; rfl, HB.out⟩
          have hd17 := decide_eq_false hc
          have hh18 := hc
          clear hc
          by_cases hc : x2 < 1
          · have hd := decide_eq_true hc
            have HRel := Lib.hid (HMono.out (Bool.eq_false_iff.2 (fun h => absurd (HN.out.1 h) (by unfold okR; omega))))
            clear HN HMono HOK
            go_wp2_with fail
            go_ret
            exact ⟨by rw [HRel.out]; rfl, HB.out⟩
          have hd27 := decide_eq_false hc
          have hh28 := hc
          clear hc
          by_cases hc : 60000 < x2
          · have hd := decide_eq_true hc
            have HRel := Lib.hid (HMono.out (Bool.eq_false_iff.2 (fun h => absurd (HN.out.1 h) (by unfold okR; omega))))
            clear HN HMono HOK
            go_wp2_with fail
            go_ret
            exact ⟨by rw [HRel.out]; rfl, HB.out⟩
          have hd37 := decide_eq_false hc
          have hh38 := hc
          clear hc
          by_cases hc : x3 < 0
          · have hd := decide_eq_true hc
            have HRel := Lib.hid (HMono.out (Bool.eq_false_iff.2 (fun h => absurd (HN.out.1 h) (by unfold okR; omega))))
            clear HN HMono HOK
            go_wp2_with fail
            go_ret
            exact ⟨by rw [HRel.out]; rfl, HB.out⟩
          have hd47 := decide_eq_false hc
          have hh48 := hc
          clear hc
          by_cases hc : 12 ≤ x3
          · have hd := decide_eq_true hc
            have HRel := Lib.hid (HMono.out (Bool.eq_false_iff.2 (fun h => absurd (HN.out.1 h) (by unfold okR; omega))))
            clear HN HMono HOK
            go_wp2_with fail
            go_ret
            exact ⟨by rw [HRel.out]; rfl, HB.out⟩
          have hd57 := decide_eq_false hc
          have hh58 := hc
          clear hc
          have HRel := Lib.hid (HN.out.2 (by unfold okR; omega))
          clear HN HMono HOK
          go_wp2_with fail
          all_goals first | exact ⟨⟨k + 1, by omega, by go_num, HRel.out, by rw [HK.out], by rw [HS.out], HA.out, HB.out⟩, by simp [intOf]; omega⟩ | exact ⟨k + 1, by omega, by go_num, HRel.out, by rw [HK.out], by rw [HS.out], HA.out, HB.out⟩ | (simp [intOf]; omega) | go_roundw
        · have hx2 : (x0 != kd) = true := by simpa using hA2
          have hx3 : (x0 == kd) = false := by simpa using hA2
          have HRel := Lib.hid (HMono.out (Bool.eq_false_iff.2 (fun h => absurd (HN.out.1 h) (by unfold okR; omega))))
          clear HN HMono HOK
          go_wp2_with fail
          go_ret
          exact ⟨by rw [HRel.out]; rfl, HB.out⟩
    · obtain rfl : k = n := by omega
      clear hB hok
      go_wp2_with fail
      go_loopw [7] (fun i wr => ∃ s : Nat, s ≤ 8 ∧ i = .int .i64 s ∧ inpAll I s = true ∧ EntAt wr w.heap.size 0 fr (.slice a k cap) I ∧ Below w.heap.size w wr) (fun i _ => 8 - (intOf i).toNat)
      case atStart => exact ⟨0, by omega, rfl, rfl, HA.out, HB.out⟩
      case round =>
        obtain ⟨s, hs, rfl, hin, hA, hB⟩ := hrel
        clear HA HB c1
        have HA := Lib.hid hA
        have HB := Lib.hid hB
        have HIN := Lib.hid hin
        clear hB hin
        by_cases hlt : s < 8
        · have d0 := hA.inps.x s hlt
          have d1 := hA.inps.y s hlt
          have d2 := hA.inps.z s hlt
          have hx := (HXY.out (s * 3) (by omega) (by omega)).1
          have hy := (HXY.out (s * 3 + 1) (by omega) (by omega)).1
          have HN : Hid (inpAll I (s + 1) = (inpAll I s && inpOk (I (s * 3)) (I (s * 3 + 1)))) := Lib.hid rfl
          have HMono := Lib.hid (inpAll_mono I (s + 1) 8 (by omega))
          clear hA
          generalize I (s * 3) = x at *
          generalize I (s * 3 + 1) = y at *
          generalize I (s * 3 + 2) = z at *
          go_wp2_with fail
          refine (mayInput_any x y z hx hy _).mono ?_
          rintro e w2 ⟨rfl, hb2⟩
          have HB2 := Lib.hid (HB.out.trans (hb2.mono HB.out.size))
          have HA2 := Lib.hid (HA.out.block (hb2.block _ HA.out.lt))
          clear hb2 HA HB d0 d1 d2 hx hy
          cases hok : inpOk x y with
          | true =>
            have hrel : inpAll I (s + 1) = true := by rw [HN.out, HIN.out, hok]; rfl
            have HRel := Lib.hid hrel
            clear hok hrel
            go_wp2_with fail
            exact ⟨⟨s + 1, by omega, rfl, HRel.out, HA2.out, HB2.out⟩, by show 8 - (s + 1) < 8 - s; omega⟩
          | false =>
            have hrel : inpAll I (s + 1) = false := by rw [HN.out, HIN.out, hok]; rfl
            have HRel := Lib.hid (HMono.out hrel)
            clear hok hrel
            go_wp2_with fail
            go_ret
            exact ⟨by rw [HRel.out, Bool.and_false]; rfl, HB2.out⟩
        · obtain rfl : s = 8 := by omega
          clear hA
          go_wp2_with fail
          go_ret
          exact ⟨by rw [HOK.out, HIN.out]; rfl, HB.out⟩
end Go.Proofs.Ytembppihfcclcaa
