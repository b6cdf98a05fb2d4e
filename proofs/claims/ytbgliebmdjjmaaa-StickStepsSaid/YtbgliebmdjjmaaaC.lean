/-
  Stick: the few examples are told; the Go text of StickNear and StickBack returns true for every input.
-/
import Derived.Test.YtbgliebmdjjmaaaB
import Derived.Lib.SmallJoins
import Derived.Lib.QuietBelow
namespace Go.Proofs.Ytbgliebmdjjmaaa
set_option linter.unusedVariables false
open Go.ChangeShapes Go.WideShapes Go.ChangeAt Go.RowKit
attribute [local go_sem] run_neg_f64 frombits_run bits_run

theorem i8_bd {a : Int} (h : (Lit.int .i8 a).wf = true) : -128 ≤ a ∧ a ≤ 127 := bounds_i8 h

set_option maxHeartbeats 1000000 in
theorem told_law (w : World) : Calls Try.prog 12 #[] w fun e w' => e = .returned (.bool true) ∧ Below w.heap.size w w' := by
  generalize hB0 : w.heap.size = B
  have HB := Lib.hid hB0
  clear hB0
  have K1 := Lib.hid (show axisF 4602678819172646912 = 64 by decide +kernel)
  have K2 := Lib.hid (show axisF 13830554455654793216 = -127 by decide +kernel)
  have K3 := Lib.hid (show axisF 9221120237041090561 = 0 by decide +kernel)
  have K4 := Lib.hid (show axisF 9218868437227405312 = 127 by decide +kernel)
  have K5 := Lib.hid (show axisF 4593671619917905920 = 16 by decide +kernel)
  have K6 := Lib.hid (show valueF 127 = 4607182418800017408 by decide +kernel)
  have K7 := Lib.hid (show mayB 1 0 = true by decide +kernel)
  have K8 := Lib.hid (show mayB 0 (-128) = false by decide +kernel)
  have K9 := Lib.hid (show nearB 1 0 0 9 0 0 = true by decide +kernel)
  have K10 := Lib.hid (show nearB 1 0 0 10 0 0 = false by decide +kernel)
  have q6 : (fo 4607182418800017408 4607182418800017408 == some .eq) = true := by decide +kernel
  go_enter Try.func12, Try.ntmps12
  go_wp2_with fail
  refine (axis_any _ (by decide) _).mono ?_
  rintro e w' ⟨rfl, rfl⟩
  rw [K1.out]
  go_wp2_with fail
  refine (axis_any _ (by decide) _).mono ?_
  rintro e w' ⟨rfl, rfl⟩
  rw [K2.out]
  go_wp2_with fail
  refine (nan_val _).mono ?_
  rintro e w' ⟨rfl, rfl⟩
  go_wp2_with fail
  refine (axis_any _ (by decide) _).mono ?_
  rintro e w' ⟨rfl, rfl⟩
  rw [K3.out]
  go_wp2_with fail
  refine (inf_pos _).mono ?_
  rintro e w' ⟨rfl, rfl⟩
  go_wp2_with fail
  refine (axis_any _ (by decide) _).mono ?_
  rintro e w' ⟨rfl, rfl⟩
  rw [K4.out]
  go_wp2_with fail
  refine (axis_any _ (by decide) _).mono ?_
  rintro e w' ⟨rfl, rfl⟩
  rw [K5.out]
  go_wp2_with fail
  refine (value_any 127 (by decide) (by decide) _).mono ?_
  rintro e w' ⟨rfl, rfl⟩
  rw [K6.out]
  go_wp2_with fail
  refine (may_any _ _ _ _).mono ?_
  rintro e w1 ⟨rfl, hb1⟩
  rw [K7.out]
  have hB1 : Below B w w1 := HB.out ▸ hb1
  clear hb1
  go_wp2_with fail
  refine (may_any _ _ _ _).mono ?_
  rintro e w2 ⟨rfl, hb2⟩
  rw [K8.out]
  have hB2 : Below B w w2 := hB1.trans (hb2.mono (by have := hB1.size; have := HB.out; omega))
  clear hb2 hB1
  go_wp2_with fail
  refine (near_any _ _ _ _ _ _ (by omega) (by omega) (by omega) (by omega) (by omega) (by omega) (by omega) (by omega) _).mono ?_
  rintro e w3 ⟨rfl, hb3⟩
  rw [K9.out]
  have hB3 : Below B w w3 := hB2.trans (hb3.mono (by have := hB2.size; have := HB.out; omega))
  clear hb3 hB2
  go_wp2_with fail
  refine (near_any _ _ _ _ _ _ (by omega) (by omega) (by omega) (by omega) (by omega) (by omega) (by omega) (by omega) _).mono ?_
  rintro e w4 ⟨rfl, hb4⟩
  rw [K10.out]
  have hB4 : Below B w w4 := hB3.trans (hb4.mono (by have := hB3.size; have := HB.out; omega))
  clear hb4 hB3
  go_wp2_with fail
  go_ret
  exact ⟨rfl, hB4⟩

/-- An input that came in. -/
def IsInput (w : World) (v : Value) : Prop := ∃ x y b : Int, v = .agg #[.int .i8 x, .int .i8 y, .int .u8 b] ∧ (-128 ≤ x ∧ x ≤ 127) ∧ (-128 ≤ y ∧ y ≤ 127) ∧ (0 ≤ b ∧ b ≤ 255)
theorem cells36 : Try.prog.cellsOf 36 = 3 := by kernel_rfl
theorem open_input {H : Type} {enc : TypeId × Value → H} {W : World} {b0 : Nat} {v : Value} {d : DataW H} {p : List MemPlace} (hv : Value.okWide Try.prog W .any b0 36 v) (h : DataW.Trod enc Try.prog W 0 (fun _ => true) true 36 v d p) : IsInput W v := by
  obtain ⟨c0, c1, c2, y0, y1, y2, m, rfl, rfl, rfl, hy0, hy1, hy2⟩ := Joins.open_agg3 Try.underlying36 (by kernel_rfl) cells36 hv h
  obtain ⟨x, e0, rfl, wx⟩ := DataW.trod_int Try.underlying22 hy0
  obtain ⟨y, e1, rfl, wy⟩ := DataW.trod_int Try.underlying22 hy1
  obtain ⟨b, e2, rfl, wb⟩ := DataW.trod_int Try.underlying5 hy2
  simp at e0 e1 e2
  subst e0 e1 e2
  exact ⟨x, y, b, rfl, i8_bd wx, i8_bd wy, bounds_u8 wb⟩
theorem nearB_comm (x y b x' y' b' : Int) : nearB x y b x' y' b' = nearB x' y' b' x y b := by
  unfold nearB farB
  rw [show (b == b') = (b' == b) by rw [Bool.eq_iff_iff]; simp; exact eq_comm, Bool.or_comm (decide (8 < x - x')), Bool.or_comm (decide (8 < y - y'))]
theorem nearB_self (x y b : Int) : nearB x y b x y b = true := by unfold nearB farB; simp
theorem nearB_ne (x y b x' y' b' : Int) (h : (b == b') = false) : nearB x y b x' y' b' = false := by unfold nearB; rw [h]; rfl

theorem below_of_regrown {w0 w1 : World} {B : Nat} (h : Below B w0 w1) (hB : B ≤ w1.heap.size) (d : Nat) (os : Array Obj) : Below B w0 (Sort.grow (redrawn w1 d) os) :=
  h.trans ((below_regrown w1 d os).mono hB)

set_option maxHeartbeats 1000000 in
theorem near_walk (eqb : Bool) (x y b x' y' b' : Int) (x0 : -128 ≤ x) (x1 : x ≤ 127) (y0 : -128 ≤ y) (y1 : y ≤ 127) (x0' : -128 ≤ x') (x1' : x' ≤ 127) (y0' : -128 ≤ y') (y1' : y' ≤ 127) (hb : (b == b') = eqb) (w : World) :
    Calls Try.prog 6 #[.agg #[.int .i8 x, .int .i8 y, .int .u8 b], .agg #[.int .i8 x', .int .i8 y', .int .u8 b']] w fun e w' => e = .returned (.bool true) ∧ Below w.heap.size w w' := by
  have hcomm := nearB_comm x y b x' y' b'
  have hself := nearB_self x y b
  have hne := nearB_ne x y b x' y' b'
  have HC := Lib.hid hcomm
  have HS := Lib.hid hself
  have HNE := Lib.hid hne
  clear hcomm hself hne
  go_enter Try.func6, Try.ntmps6
  go_wp2_with fail
  have c0 : ((w.alloc (.cells #[.int .i8 x, .int .i8 y, .int .u8 b] 36)).alloc (.cells #[.int .i8 x', .int .i8 y', .int .u8 b'] 36)).cell? ⟨w.heap.size, 0, none⟩ = some (.int .i8 x) := by go_simp
  have c1 : ((w.alloc (.cells #[.int .i8 x, .int .i8 y, .int .u8 b] 36)).alloc (.cells #[.int .i8 x', .int .i8 y', .int .u8 b'] 36)).cell? ⟨w.heap.size, 1, none⟩ = some (.int .i8 y) := by go_simp
  have c2 : ((w.alloc (.cells #[.int .i8 x, .int .i8 y, .int .u8 b] 36)).alloc (.cells #[.int .i8 x', .int .i8 y', .int .u8 b'] 36)).cell? ⟨w.heap.size, 2, none⟩ = some (.int .u8 b) := by go_simp
  have c3 : ((w.alloc (.cells #[.int .i8 x, .int .i8 y, .int .u8 b] 36)).alloc (.cells #[.int .i8 x', .int .i8 y', .int .u8 b'] 36)).cell? ⟨w.heap.size + 1, 0, none⟩ = some (.int .i8 x') := by go_simp
  have c4 : ((w.alloc (.cells #[.int .i8 x, .int .i8 y, .int .u8 b] 36)).alloc (.cells #[.int .i8 x', .int .i8 y', .int .u8 b'] 36)).cell? ⟨w.heap.size + 1, 1, none⟩ = some (.int .i8 y') := by go_simp
  have c5 : ((w.alloc (.cells #[.int .i8 x, .int .i8 y, .int .u8 b] 36)).alloc (.cells #[.int .i8 x', .int .i8 y', .int .u8 b'] 36)).cell? ⟨w.heap.size + 1, 2, none⟩ = some (.int .u8 b') := by go_simp
  have hB : Below w.heap.size w ((w.alloc (.cells #[.int .i8 x, .int .i8 y, .int .u8 b] 36)).alloc (.cells #[.int .i8 x', .int .i8 y', .int .u8 b'] 36)) := ((Below.refl _ _).alloc (Nat.le_refl _) _).alloc (by simp) _
  generalize ((w.alloc _).alloc _) = w1 at c0 c1 c2 c3 c4 c5 hB ⊢
  have hsz := hB.size
  have HB := Lib.hid hB
  have HSZ := Lib.hid hsz
  have k0 := cell_regrown c0
  have k1 := cell_regrown c1
  have k2 := cell_regrown c2
  have k3 := cell_regrown c3
  have k4 := cell_regrown c4
  have k5 := cell_regrown c5
  clear c0 c1 c2 c3 c4 c5 hB hsz
  have cT : ∀ d os, Calls Try.prog 12 #[] (Sort.grow (redrawn w1 d) os) fun e w'' => e = .returned (.bool true) ∧ ∃ p : Regrown, w'' = Sort.grow (redrawn w1 p.d) p.os := fun d os => Calls.regrown_of (told_law _)
  have cN : ∀ d os, Calls Try.prog 15 #[.agg #[.int .i8 x, .int .i8 y, .int .u8 b], .agg #[.int .i8 x', .int .i8 y', .int .u8 b']] (Sort.grow (redrawn w1 d) os) fun e w'' => e = .returned (.bool (nearB x y b x' y' b')) ∧ ∃ p : Regrown, w'' = Sort.grow (redrawn w1 p.d) p.os := fun d os => Calls.regrown_of (near_any _ _ _ _ _ _ x0 x1 y0 y1 x0' x1' y0' y1' _)
  have cM : ∀ d os, Calls Try.prog 15 #[.agg #[.int .i8 x', .int .i8 y', .int .u8 b'], .agg #[.int .i8 x, .int .i8 y, .int .u8 b]] (Sort.grow (redrawn w1 d) os) fun e w'' => e = .returned (.bool (nearB x y b x' y' b')) ∧ ∃ p : Regrown, w'' = Sort.grow (redrawn w1 p.d) p.os := fun d os => by rw [HC.out]; exact Calls.regrown_of (near_any _ _ _ _ _ _ x0' x1' y0' y1' x0 x1 y0 y1 _)
  have cS : ∀ d os, Calls Try.prog 15 #[.agg #[.int .i8 x, .int .i8 y, .int .u8 b], .agg #[.int .i8 x, .int .i8 y, .int .u8 b]] (Sort.grow (redrawn w1 d) os) fun e w'' => e = .returned (.bool true) ∧ ∃ p : Regrown, w'' = Sort.grow (redrawn w1 p.d) p.os := fun d os => by rw [← HS.out]; exact Calls.regrown_of (near_any _ _ _ _ _ _ x0 x1 y0 y1 x0 x1 y0 y1 _)
  have CT := Lib.hid cT
  have CN := Lib.hid cN
  have CM := Lib.hid cM
  have CS := Lib.hid cS
  clear cT cN cM cS
  have q1 : (nearB x y b x' y' b' == nearB x y b x' y' b') = true := by simp
  cases eqb with
  | true =>
    refine wp_region_quiet_below (by kernel_rfl) (by kernel_rfl) ?_
    repeat (quiet_step (first | exact CT.out _ _ | with_reducible exact CN.out _ _ | with_reducible exact CM.out _ _ | with_reducible exact CS.out _ _))
    refine wpQuiet_nil ?_
    intro _ hw'
    obtain ⟨⟨dq, osq⟩, hw''⟩ := hw'
    subst hw''
    go_wp2
    go_ret
    exact ⟨rfl, below_of_regrown HB.out HSZ.out _ _⟩
  | false =>
    have hnn := HNE.out hb
    refine wp_region_quiet_below (by kernel_rfl) (by kernel_rfl) ?_
    repeat (quiet_step (first | exact CT.out _ _ | with_reducible exact CN.out _ _ | with_reducible exact CM.out _ _ | with_reducible exact CS.out _ _))
    refine wpQuiet_nil ?_
    intro _ hw'
    obtain ⟨⟨dq, osq⟩, hw''⟩ := hw'
    subst hw''
    go_wp2
    go_ret
    exact ⟨rfl, below_of_regrown HB.out HSZ.out _ _⟩

theorem law_StickNear (v0 v1 : Value) (w : World) (w0 : IsInput w v0) (w1 : IsInput w v1) :
    Calls Try.prog 6 #[v0, v1] w fun e w' => e = .returned (.bool true) ∧ Below w.heap.size w w' := by
  obtain ⟨x, y, b, rfl, ⟨x0, x1⟩, ⟨y0, y1⟩, b0, b1⟩ := w0
  obtain ⟨x', y', b', rfl, ⟨x0', x1'⟩, ⟨y0', y1'⟩, b0', b1'⟩ := w1
  exact near_walk _ x y b x' y' b' x0 x1 y0 y1 x0' x1' y0' y1' rfl w
end Go.Proofs.Ytbgliebmdjjmaaa
