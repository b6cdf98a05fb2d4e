/-
  Queue: the contracts of the reference's Put and Known.
-/
import Derived.Test.YtabgooglfgioiaaO
import Derived.Deep.RegionHeld3
import Derived.Lib.QuietBelow
namespace Go.Proofs.Ytabgooglfgioiaa
set_option linter.unusedVariables false
open Go.ChangeShapes Go.WideShapes Go.ChangeAt Go.RowKit

theorem rmay_any (x y z : Int) (hx : -128 ≤ x) (hy : -128 ≤ y) (w : World) :
    Calls Try.prog 21 #[.agg #[.int .i8 x, .int .i8 y, .int .u8 z]] w fun e w' => e = .returned (.bool (decide (-127 ≤ x) && decide (-127 ≤ y))) ∧ Below w.heap.size w w' := by
  by_cases h1 : x = -128
  · subst h1
    go_enter Try.func21, Try.ntmps21
    go_wp2
    go_ret
    exact ⟨rfl, below_alloc _ _⟩
  · have e1 : (x != -128) = true := by simpa using h1
    have e2 : decide (-127 ≤ x) = true := by simp; omega
    have e3 : (y != -128) = decide (-127 ≤ y) := by
      by_cases h2 : y = -128
      · subst h2; rfl
      · have : -127 ≤ y := by omega
        simp [h2, this]
    rw [e2, Bool.true_and, ← e3]
    clear e2 e3 h1
    go_enter Try.func21, Try.ntmps21
    go_wp2
    go_ret
    exact ⟨rfl, below_alloc _ _⟩

theorem below_of_regrown {s : Nat} {w w1 : World} (h : Below s w w1) (hs : s ≤ w1.heap.size) (d : Nat) (os : Array Obj) : Below s w (Sort.grow (redrawn w1 d) os) :=
  h.trans ((below_regrown w1 d os).mono hs)
theorem regrown_drew (w : World) (d : Nat) (os : Array Obj) : (Sort.grow (redrawn w d) os).drew = Sort.grow (redrawn w (d + 1)) os := rfl

set_option maxHeartbeats 2000000 in
theorem rput_1 (c : Nat) (f x y z : Int) (hs : Nat → Bool) (X Y Z : Nat → Int) (fr i j k : Int) (w : World) (h : RAt w c f x y z hs X Y Z) (hi : -128 ≤ i) (hj : -128 ≤ j) (hm : (decide (-127 ≤ i) && decide (-127 ≤ j)) = false) :
    Calls Try.prog 14 #[.pointer (some ⟨c, 0, none⟩), .int .i64 fr, .agg #[.int .i8 i, .int .i8 j, .int .u8 k]] w fun e w' => e = .returned (.bool false) ∧ Below w.heap.size w w' := by
  have HM := Lib.hid (fun W : World => hm ▸ rmay_any i j k hi hj W)
  have H := Lib.hid h
  clear h
  go_enter Try.func14, Try.ntmps14
  go_wp2
  obtain ⟨b0, b1, b2⟩ := inAt_new w i j k
  have hB := below_alloc w (Obj.cells #[.int .i8 i, .int .i8 j, .int .u8 k] 24)
  have h1 := H.out.block (hB.block c H.out.lt)
  generalize w.alloc (Obj.cells #[.int .i8 i, .int .i8 j, .int .u8 k] 24) = w1 at b0 b1 b2 hB h1 ⊢
  have k0 := cell_regrown b0
  have k1 := cell_regrown b1
  have k2 := cell_regrown b2
  have k3 := cell_regrown h1.c0
  have HH := Lib.hid h1
  clear b0 b1 b2 h1
  refine wp_region_quiet_below (by kernel_rfl) (by kernel_rfl) ?_
  repeat (go_big_quiet_step ((exact Calls.regrown_of (HM.out _))))
  refine wpQuiet_nil ?_
  intro _ hw'
  obtain ⟨⟨nq, osq⟩, hw''⟩ := hw'
  subst hw''
  all_goals go_wp2
  all_goals go_ret
  all_goals exact ⟨rfl, below_of_regrown hB hB.size _ _⟩
set_option maxHeartbeats 2000000 in
theorem rput_2 (c : Nat) (f x y z : Int) (hs : Nat → Bool) (X Y Z : Nat → Int) (fr i j k : Int) (w : World) (h : RAt w c f x y z hs X Y Z) (hi : -128 ≤ i) (hj : -128 ≤ j) (hm : (decide (-127 ≤ i) && decide (-127 ≤ j)) = true) (hf : decide (fr < f) = true) :
    Calls Try.prog 14 #[.pointer (some ⟨c, 0, none⟩), .int .i64 fr, .agg #[.int .i8 i, .int .i8 j, .int .u8 k]] w fun e w' => e = .returned (.bool false) ∧ Below w.heap.size w w' := by
  have HM := Lib.hid (fun W : World => hm ▸ rmay_any i j k hi hj W)
  have H := Lib.hid h
  clear h
  go_enter Try.func14, Try.ntmps14
  go_wp2
  obtain ⟨b0, b1, b2⟩ := inAt_new w i j k
  have hB := below_alloc w (Obj.cells #[.int .i8 i, .int .i8 j, .int .u8 k] 24)
  have h1 := H.out.block (hB.block c H.out.lt)
  generalize w.alloc (Obj.cells #[.int .i8 i, .int .i8 j, .int .u8 k] 24) = w1 at b0 b1 b2 hB h1 ⊢
  have k0 := cell_regrown b0
  have k1 := cell_regrown b1
  have k2 := cell_regrown b2
  have k3 := cell_regrown h1.c0
  have HH := Lib.hid h1
  clear b0 b1 b2 h1
  refine wp_region_quiet_below (by kernel_rfl) (by kernel_rfl) ?_
  repeat (go_big_quiet_step ((exact Calls.regrown_of (HM.out _))))
  refine wpQuiet_nil ?_
  intro _ hw'
  obtain ⟨⟨nq, osq⟩, hw''⟩ := hw'
  subst hw''
  all_goals go_wp2
  all_goals go_ret
  all_goals exact ⟨rfl, below_of_regrown hB hB.size _ _⟩
set_option maxHeartbeats 2000000 in
theorem rput_3 (c : Nat) (f x y z : Int) (hs : Nat → Bool) (X Y Z : Nat → Int) (fr i j k : Int) (w : World) (h : RAt w c f x y z hs X Y Z) (hi : -128 ≤ i) (hj : -128 ≤ j) (hm : (decide (-127 ≤ i) && decide (-127 ≤ j)) = true) (f0 : 0 ≤ f) (f1 : f ≤ 1000000) (h1 : fr ≤ 9223372036854775807) (hff : f + 63 < fr) :
    Calls Try.prog 14 #[.pointer (some ⟨c, 0, none⟩), .int .i64 fr, .agg #[.int .i8 i, .int .i8 j, .int .u8 k]] w fun e w' => e = .returned (.bool false) ∧ Below w.heap.size w w' := by
  have HM := Lib.hid (fun W : World => hm ▸ rmay_any i j k hi hj W)
  have H := Lib.hid h
  clear h
  have hf : decide (fr < f) = false := by simp; omega
  have hn : decide (63 < fr - f) = true := by simp; omega
  have e1 : IntKind.u64.wrap fr = fr := by simp [IntKind.wrap, IntKind.bits, IntKind.signed]; omega
  have e2 : IntKind.u64.wrap f = f := by simp [IntKind.wrap, IntKind.bits, IntKind.signed]; omega
  have e3 : IntKind.u64.wrap (fr - f) = fr - f := by simp [IntKind.wrap, IntKind.bits, IntKind.signed]; omega
  have e4 : IntKind.i64.wrap (fr - f) = fr - f := IntWalk.i64_in _ (by omega)
  go_enter Try.func14, Try.ntmps14
  go_wp2
  obtain ⟨b0, b1, b2⟩ := inAt_new w i j k
  have hB := below_alloc w (Obj.cells #[.int .i8 i, .int .i8 j, .int .u8 k] 24)
  have h1 := H.out.block (hB.block c H.out.lt)
  generalize w.alloc (Obj.cells #[.int .i8 i, .int .i8 j, .int .u8 k] 24) = w1 at b0 b1 b2 hB h1 ⊢
  have k0 := cell_regrown b0
  have k1 := cell_regrown b1
  have k2 := cell_regrown b2
  have k3 := cell_regrown h1.c0
  have HH := Lib.hid h1
  clear b0 b1 b2 h1
  refine wp_region_quiet_below (by kernel_rfl) (by kernel_rfl) ?_
  repeat (go_big_quiet_step ((exact Calls.regrown_of (HM.out _))))
  refine wpQuiet_nil ?_
  intro _ hw'
  obtain ⟨⟨nq, osq⟩, hw''⟩ := hw'
  subst hw''
  all_goals go_wp2
  all_goals go_ret
  all_goals exact ⟨rfl, below_of_regrown hB hB.size _ _⟩
set_option maxHeartbeats 2000000 in
theorem rput_4 (c : Nat) (f x y z : Int) (hs : Nat → Bool) (X Y Z : Nat → Int) (fr i j k : Int) (w : World) (h : RAt w c f x y z hs X Y Z) (hi : -128 ≤ i) (hj : -128 ≤ j) (hm : (decide (-127 ≤ i) && decide (-127 ≤ j)) = true) (f0 : 0 ≤ f) (f1 : f ≤ 1000000) (hf0 : f ≤ fr) (hf1 : fr ≤ f + 63) (hh : hs (fr - f).toNat = true) :
    Calls Try.prog 14 #[.pointer (some ⟨c, 0, none⟩), .int .i64 fr, .agg #[.int .i8 i, .int .i8 j, .int .u8 k]] w fun e w' => e = .returned (.bool false) ∧ Below w.heap.size w w' := by
  have HM := Lib.hid (fun W : World => hm ▸ rmay_any i j k hi hj W)
  have H := Lib.hid h
  clear h
  obtain ⟨d, rfl⟩ : ∃ d : Nat, fr = f + d := ⟨(fr - f).toNat, by omega⟩
  have hd64 : d < 64 := by omega
  have hf : decide (f + (d : Int) < f) = false := decide_eq_false (by omega)
  have hn : decide ((63 : Int) < (d : Int)) = false := by simp; omega
  have e0 : f + (d : Int) - f = d := by omega
  have hsd : hs d = true := by rw [← hh]; congr 1; omega
  have HSD := Lib.hid hsd
  have e1 : IntKind.u64.wrap (f + (d : Int)) = f + d := by simp [IntKind.wrap, IntKind.bits, IntKind.signed]; omega
  have e2 : IntKind.u64.wrap f = f := by simp [IntKind.wrap, IntKind.bits, IntKind.signed]; omega
  have e3 : IntKind.u64.wrap (d : Int) = d := by simp [IntKind.wrap, IntKind.bits, IntKind.signed]; omega
  have e4 : IntKind.i64.wrap (d : Int) = d := IntWalk.i64_in _ (by omega)
  have g0 : (0 : Int) ≤ d := by omega
  have g1 : (d : Int) < 64 := by omega
  clear hh hsd
  go_enter Try.func14, Try.ntmps14
  go_wp2
  obtain ⟨b0, b1, b2⟩ := inAt_new w i j k
  have hB := below_alloc w (Obj.cells #[.int .i8 i, .int .i8 j, .int .u8 k] 24)
  have h1 := H.out.block (hB.block c H.out.lt)
  generalize w.alloc (Obj.cells #[.int .i8 i, .int .i8 j, .int .u8 k] 24) = w1 at b0 b1 b2 hB h1 ⊢
  have k0 := cell_regrown b0
  have k1 := cell_regrown b1
  have k2 := cell_regrown b2
  have k3 := cell_regrown h1.c0
  have k4 := h1.has.cell d hd64
  rw [HSD.out] at k4
  replace k4 := cell_regrown k4
  have HH := Lib.hid h1
  clear b0 b1 b2 h1
  refine wp_region_quiet_below (by kernel_rfl) (by kernel_rfl) ?_
  repeat (go_big_quiet_step ((exact Calls.regrown_of (HM.out _))))
  refine wpQuiet_nil ?_
  intro _ hw'
  obtain ⟨⟨nq, osq⟩, hw''⟩ := hw'
  subst hw''
  all_goals go_wp2
  all_goals go_ret
  all_goals exact ⟨rfl, below_of_regrown hB hB.size _ _⟩
set_option maxHeartbeats 2000000 in
theorem rput_5 (c : Nat) (f x y z : Int) (hs : Nat → Bool) (X Y Z : Nat → Int) (fr i j k : Int) (w : World) (h : RAt w c f x y z hs X Y Z) (hi : -128 ≤ i) (hj : -128 ≤ j) (hm : (decide (-127 ≤ i) && decide (-127 ≤ j)) = true) (f0 : 0 ≤ f) (f1 : f ≤ 1000000) (hf0 : f ≤ fr) (hf1 : fr ≤ f + 63) (hh : hs (fr - f).toNat = false) :
    Calls Try.prog 14 #[.pointer (some ⟨c, 0, none⟩), .int .i64 fr, .agg #[.int .i8 i, .int .i8 j, .int .u8 k]] w fun e w' => e = .returned (.bool true) ∧ RAt w' c f x y z (upd hs (fr - f).toNat true) (updI X (fr - f).toNat i) (updI Y (fr - f).toNat j) (updI Z (fr - f).toNat k) ∧ Kept (fun b => b = c) w w' := by
  have HM := Lib.hid (fun W : World => hm ▸ rmay_any i j k hi hj W)
  have H := Lib.hid h
  clear h
  obtain ⟨d, rfl⟩ : ∃ d : Nat, fr = f + d := ⟨(fr - f).toNat, by omega⟩
  have hd64 : d < 64 := by omega
  have hf : decide (f + (d : Int) < f) = false := decide_eq_false (by omega)
  have hn : decide ((63 : Int) < (d : Int)) = false := by simp; omega
  have e0 : f + (d : Int) - f = d := by omega
  have hsd : hs d = false := by rw [← hh]; congr 1; omega
  have HSD := Lib.hid hsd
  rw [show (f + (d : Int) - f).toNat = d from by omega]
  have e1 : IntKind.u64.wrap (f + (d : Int)) = f + d := by simp [IntKind.wrap, IntKind.bits, IntKind.signed]; omega
  have e2 : IntKind.u64.wrap f = f := by simp [IntKind.wrap, IntKind.bits, IntKind.signed]; omega
  have e3 : IntKind.u64.wrap (d : Int) = d := by simp [IntKind.wrap, IntKind.bits, IntKind.signed]; omega
  have e4 : IntKind.i64.wrap (d : Int) = d := IntWalk.i64_in _ (by omega)
  have g0 : (0 : Int) ≤ d := by omega
  have g1 : (d : Int) < 64 := by omega
  clear hh hsd
  go_enter Try.func14, Try.ntmps14
  go_wp2
  obtain ⟨b0, b1, b2⟩ := inAt_new w i j k
  have hB := below_alloc w (Obj.cells #[.int .i8 i, .int .i8 j, .int .u8 k] 24)
  have h1 := H.out.block (hB.block c H.out.lt)
  generalize w.alloc (Obj.cells #[.int .i8 i, .int .i8 j, .int .u8 k] 24) = w1 at b0 b1 b2 hB h1 ⊢
  have k0 := cell_regrown b0
  have k1 := cell_regrown b1
  have k2 := cell_regrown b2
  have k3 := cell_regrown h1.c0
  have k4 := h1.has.cell d hd64
  rw [HSD.out] at k4
  replace k4 := cell_regrown k4
  have HH := Lib.hid h1
  clear b0 b1 b2 h1
  refine wp_region_quiet_below (by kernel_rfl) (by kernel_rfl) ?_
  repeat (go_big_quiet_step ((exact Calls.regrown_of (HM.out _))))
  refine wpQuiet_nil ?_
  intro _ hw'
  obtain ⟨⟨nq, osq⟩, hw''⟩ := hw'
  subst hw''
  have hB2 := below_of_regrown hB hB.size nq osq
  have hR := HH.out.block ((below_regrown w1 nq osq).block c HH.out.lt)
  have q0 := k0 nq osq
  have q1 := k1 nq osq
  have q2 := k2 nq osq
  generalize Sort.grow (redrawn w1 nq) osq = W at hB2 hR q0 q1 q2 ⊢
  clear k0 k1 k2 k3 k4 HH hB H
  have c0 := hR.c0
  have r0 := hR.has.cell d hd64
  have r1 := hR.has.frozen d hd64
  have r2 := hR.ins.x d hd64
  have r3 := hR.ins.y d hd64
  have r4 := hR.ins.z d hd64
  have r5 := hR.ins.f (d * 3) (by omega)
  have r6 := hR.ins.f (d * 3 + 1) (by omega)
  have r7 := hR.ins.f (d * 3 + 2) (by omega)
  rw [← Nat.add_assoc] at r6 r7
  have hk : Kept (fun b => b = c) w ((((W.setCell ⟨c, 4 + d, none⟩ (.bool true)).setCell ⟨c, 68 + d * 3, none⟩ (.int .i8 i)).setCell ⟨c, 68 + d * 3 + 1, none⟩ (.int .i8 j)).setCell ⟨c, 68 + d * 3 + 2, none⟩ (.int .u8 k)).drew :=
    by repeat (first | exact Kept.of_below hB2 | refine Kept.drew ?_ | refine Kept.setSelf ?_ _)
  have HF := Lib.hid (And.intro (hR.setBoth d hd64 true i j k).drew hk)
  clear hR hB2 hk
  go_wp2
  go_region
  all_goals go_wp2
  all_goals go_ret
  all_goals exact ⟨rfl, HF.out⟩
end Go.Proofs.Ytabgooglfgioiaa
