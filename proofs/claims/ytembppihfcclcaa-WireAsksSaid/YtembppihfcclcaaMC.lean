/-
  Wire: which messages may be.
-/
import Derived.Test.YtembppihfcclcaaG09x
namespace Go.Proofs.Ytembppihfcclcaa
set_option linter.unusedVariables false
open Go.ChangeShapes Go.WideShapes Go.ChangeAt Go.RowKit

set_option linter.unusedSimpArgs false
def mayD (x : Ent) : Bool := mayE x.fr x.n x.E x.I
def logOk (fr : Int) (D : Nat → Ent) : Nat → Bool
  | 0 => true
  | n + 1 => logOk fr D n && (mayD (D n) && ((D n).fr == fr + n))
theorem logOk_mono (fr : Int) (D : Nat → Ent) (n m : Nat) (h : n ≤ m) (hb : logOk fr D n = false) : logOk fr D m = false := by
  induction m with
  | zero => have : n = 0 := by omega
            subst this; exact hb
  | succ m ih =>
    by_cases e : n = m + 1
    · subst e; exact hb
    · unfold logOk; rw [ih (by omega), Bool.false_and]
theorem size_ent' (fr : Int) (sv : Value) (I : Nat → Int) : (Try.prog.info? 37).map (·.size) = some (entL fr sv I).length := size_ent fr sv I
set_option maxHeartbeats 2000000 in
theorem mayLog_any (F : Nat → Int) (iv lv dv : Value) (fr : Int) (n : Nat) (D : Nat → Ent) (HFR : Hid (F 7 = fr)) (hF : 0 ≤ fr ∧ fr ≤ 1048576) (hn : n ≤ 16) (w : World) (hr : EntsV w lv n D) :
    Calls Try.prog 28 #[.agg (msgL F iv lv dv).toArray] w fun e w' => e = .returned (.bool (logOk fr D n)) ∧ Below w.heap.size w w' := by
  have hA := msgAt_new F iv lv dv 30 w
  have hB := (Below.refl w.heap.size w).alloc (Nat.le_refl _) (Obj.cells (msgL F iv lv dv).toArray 30)
  have c14 := hA.c14
  obtain ⟨a, cap, rfl, hnc, hcm, hev⟩ := hr
  unfold maxLen at hcm
  have HEV := Lib.hid hev
  clear hev
  go_enter Try.func28, Try.ntmps28
  go_wp2_with fail
  have HA := Lib.hid hA
  have HB := Lib.hid hB
  clear hA hB c14
  generalize w.alloc (Obj.cells (msgL F iv (.slice a n cap) dv).toArray 30) = w1 at *
  go_loopw [8] (fun i wr => ∃ k : Nat, k ≤ n ∧ i = .int .i64 k ∧ logOk fr D k = true ∧ MsgAt wr w.heap.size F iv (.slice a n cap) dv ∧ Below w.heap.size w wr) (fun i _ => n - (intOf i).toNat)
  case atStart => exact ⟨0, by omega, rfl, rfl, HA.out, HB.out⟩
  case round =>
    obtain ⟨k, hk, rfl, hok, hA, hB⟩ := hrel
    clear HA HB
    have HA := Lib.hid hA
    have HB := Lib.hid hB
    have HOK := Lib.hid hok
    clear hok hA
    by_cases hlt : k < n
    · obtain ⟨b, o, rfl, hbl, hin⟩ := HEV.out (by omega)
      obtain ⟨sv, he, hs⟩ := (hin.below hB (Nat.le_refl _)) k hlt
      have hki : (k : Int) < (n : Int) := by omega
      have HN : Hid (logOk fr D (k + 1) = (logOk fr D k && (mayD (D k) && ((D k).fr == fr + k)))) := Lib.hid rfl
      have HMono := Lib.hid (logOk_mono fr D (k + 1) n (by omega))
      have HE := Lib.hid he
      have HS := Lib.hid hs
      clear hB he hs hin
      generalize D k = x at *
      have o1 := HS.out.one x.fr x.I
      have st1 := store_ent x.fr sv x.I o1 wr _ rfl
      have HX := Lib.hid (entAt_new x.fr sv x.I 37 wr)
      have HBW := Lib.hid ((Below.refl wr.heap.size wr).alloc (Nat.le_refl _) (Obj.cells (entL x.fr sv x.I).toArray 37))
      clear o1
      go_wp2_with (first | (refine wpList_load_g (by rfl) 37 _ rfl b (o + k * 26) rfl _ _ HE.out.range Try.underlying37 rfl (size_ent _ _ _) ?_) | (refine wpList_load_g (by rfl) 37 _ rfl wr.heap.size 0 rfl _ _ HX.out.range Try.underlying37 rfl (size_ent _ _ _) ?_))
      refine (may_any x.fr sv x.n x.E x.I _ (HS.out.below HBW.out (Nat.le_refl _))).mono ?_
      rintro e w2 ⟨rfl, hb2⟩
      have HB3 := Lib.hid ((HB.out.trans (HBW.out.mono HB.out.size)).trans (hb2.mono (by have := HB.out.size; simp; omega)))
      have HX2 := Lib.hid (HX.out.block (hb2.block _ HX.out.lt))
      have HA2 := Lib.hid (HA.out.block ((hb2.block _ (by have := HA.out.lt; simp; omega)).trans (HBW.out.block _ HA.out.lt)))
      clear hb2 st1 HX HBW HB HE HS HA
      have hmd : mayD x = mayE x.fr x.n x.E x.I := rfl
      rw [← hmd]
      clear hmd
      have c0 := HX2.out.z0
      have c7 := HA2.out.c7
      rw [HFR.out] at c7
      generalize wr.heap.size = T at *
      cases hs : mayD x with
      | false =>
        have hrel : logOk fr D (k + 1) = false := by rw [HN.out, HOK.out, hs]; rfl
        have HRel := Lib.hid (HMono.out hrel)
        clear hs hrel HN
        go_wp2_with fail
        go_ret
        exact ⟨by rw [HRel.out]; rfl, HB3.out⟩
      | true =>
        cases he : (x.fr == fr + k) with
        | false =>
          have hne : (x.fr != fr + (k : Int)) = true := by rw [bne, he]; rfl
          have hrel : logOk fr D (k + 1) = false := by rw [HN.out, HOK.out, hs, he]; rfl
          have HRel := Lib.hid (HMono.out hrel)
          clear hs hrel HN he
          go_wp2_with fail
          go_ret
          exact ⟨by rw [HRel.out]; rfl, HB3.out⟩
        | true =>
          have hne : (x.fr != fr + (k : Int)) = false := by rw [bne, he]; rfl
          have hrel : logOk fr D (k + 1) = true := by rw [HN.out, HOK.out, hs, he]; rfl
          have HRel := Lib.hid hrel
          clear hs hrel HN he
          go_wp2_with fail
          all_goals first | exact ⟨⟨k + 1, by omega, by go_num, HRel.out, HA2.out, HB3.out⟩, by simp [intOf]; omega⟩ | exact ⟨k + 1, by omega, by go_num, HRel.out, HA2.out, HB3.out⟩ | (simp [intOf]; omega) | go_roundw
    · obtain rfl : k = n := by omega
      go_wp2_with fail
      go_ret
      exact ⟨by rw [HOK.out]; rfl, hB⟩
theorem mayClW_any (x y z : Int) (w : World) :
    Calls Try.prog 30 #[.agg #[.int .i8 x, .int .i8 y, .int .u8 z]] w fun e w' => e = .returned (.bool (!inpOk x y)) ∧ Below w.heap.size w w' := by
  go_enter Try.func30, Try.ntmps30
  go_wp2_with fail
  refine (stickMay_any x y z _).mono ?_
  rintro e w2 ⟨rfl, hb⟩
  have HB := Lib.hid (((Below.refl w.heap.size w).alloc (Nat.le_refl _) (Obj.cells #[.int .i8 x, .int .i8 y, .int .u8 z] 34)).trans (hb.mono (by simp)))
  clear hb
  go_wp2_with fail
  go_ret
  exact ⟨rfl, HB.out⟩
set_option maxHeartbeats 1000000 in
theorem idxInpW (a : Option Addr) (n c : Nat) (hnm : n ≤ maxLen) (I : Nat → Int) (w : World) (ha : 0 < n → ∃ b o, a = some ⟨b, o, none⟩ ∧ b < w.heap.size ∧ InpsAt w b o n I) :
    Calls Try.prog 54 #[.slice a n c, .func (.func 30) #[] #[]] w fun e w' => (∃ r : Int, e = .returned (.int .i64 r) ∧ decide (0 ≤ r) = !inpAll I n) ∧ Below w.heap.size w w' := by
  unfold maxLen at hnm
  have HA := Lib.hid ha
  clear ha
  go_enter Try.func54, Try.ntmps54
  go_wp2_with fail
  go_loopw [8] (fun i wr => ∃ k : Nat, k ≤ n ∧ i = .int .i64 k ∧ inpAll I k = true ∧ Below w.heap.size w wr) (fun i _ => n - (intOf i).toNat)
  case atStart => exact ⟨0, by omega, rfl, rfl, Below.refl _ _⟩
  case round =>
    obtain ⟨k, hk, rfl, hnb, hB⟩ := hrel
    have HB := Lib.hid hB
    have HNB := Lib.hid hnb
    clear hnb
    by_cases hlt : k < n
    · obtain ⟨b, o, rfl, hbl, hin⟩ := HA.out (by omega)
      have hsr := hin.block (hB.block b hbl)
      have d0 := hsr.x k hlt
      have d1 := hsr.y k hlt
      have d2 := hsr.z k hlt
      have HN : Hid (inpAll I (k + 1) = (inpAll I k && inpOk (I (k * 3)) (I (k * 3 + 1)))) := Lib.hid rfl
      have HMono := Lib.hid (inpAll_mono I (k + 1) n (by omega))
      clear hsr hin hB
      generalize I (k * 3) = x at *
      generalize I (k * 3 + 1) = y at *
      generalize I (k * 3 + 2) = z at *
      go_wp2_with fail
      refine (mayClW_any x y z _).mono ?_
      rintro e w2 ⟨rfl, hb2⟩
      have HB2 := Lib.hid (HB.out.trans (hb2.mono HB.out.size))
      clear hb2
      cases hok : inpOk x y with
      | true =>
        have hrel : inpAll I (k + 1) = true := by rw [HN.out, HNB.out, hok]; rfl
        have HRel := Lib.hid hrel
        clear hok hrel
        go_wp2_with fail
        all_goals first | exact ⟨⟨k + 1, by omega, by go_num, HRel.out, HB2.out⟩, by simp [intOf]; omega⟩ | exact ⟨k + 1, by omega, by go_num, HRel.out, HB2.out⟩ | (simp [intOf]; omega) | go_roundw
      | false =>
        have hrel : inpAll I (k + 1) = false := by rw [HN.out, HNB.out, hok]; rfl
        have HRel := Lib.hid hrel
        clear hok hrel
        go_wp2_with fail
        go_ret
        exact ⟨⟨k, rfl, by rw [HMono.out HRel.out]; simp⟩, HB2.out⟩
    · obtain rfl : k = n := by omega
      go_wp2_with fail
      go_ret
      exact ⟨⟨-1, rfl, by rw [HNB.out]; rfl⟩, hB⟩
theorem contInpW (a : Option Addr) (n c : Nat) (hnm : n ≤ maxLen) (I : Nat → Int) (w : World) (ha : 0 < n → ∃ b o, a = some ⟨b, o, none⟩ ∧ b < w.heap.size ∧ InpsAt w b o n I) :
    Calls Try.prog 29 #[.slice a n c, .func (.func 30) #[] #[]] w fun e w' => e = .returned (.bool (!inpAll I n)) ∧ Below w.heap.size w w' := by
  have HA := Lib.hid ha
  clear ha
  go_enter Try.func29, Try.ntmps29
  go_wp2_with fail
  refine (idxInpW a n c hnm I _ HA.out).mono ?_
  rintro e w2 ⟨⟨r, rfl, hr⟩, hF⟩
  have HR := Lib.hid hr
  have HF := Lib.hid hF
  clear hr hF
  go_wp2_with fail
  go_ret
  exact ⟨by rw [← HR.out]; rfl, HF.out⟩
end Go.Proofs.Ytembppihfcclcaa
