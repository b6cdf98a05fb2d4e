/-
  Wire: the reference's May.
-/
import Derived.Test.YtembppihfcclcaaVF
import Derived.Deep.DeepCutAuto
namespace Go.Proofs.Ytembppihfcclcaa
set_option linter.unusedVariables false
open Go.ChangeShapes Go.WideShapes Go.ChangeAt Go.RowKit

set_option linter.unusedSimpArgs false
def mayC (M : Msg) : Bool := (decide (M.F 0 < 1) || decide (14 < M.F 0) || decide (M.F 1 < 0) || decide (12 ≤ M.F 1) || !bareM M || decide (M.F 5 < 0) || decide (8 ≤ M.F 5) || decide (M.F 7 < 0) || decide (1048576 < M.F 7) || decide (M.F 8 < 0) || decide (9 < M.F 8) || decide (M.F 9 < 0) || decide (65535 < M.F 9))
def mayDd (M : Msg) : Bool := (wB (M.F 0) 103 && (decide (M.F 6 < 1) || decide (60000 < M.F 6))) || (wB (M.F 0) 111 && (decide (M.F 10 < 1) || decide (65535 < M.F 10) || decide (M.F 10 ≤ M.F 9))) || (wB (M.F 0) 100 && (decide ((M.d.length : Int) < 1) || decide (64 < (M.d.length : Int))))
def mayI (M : Msg) : Bool := (wB (M.F 0) 105 && (decide ((M.ni : Int) < 1) || decide (16 < (M.ni : Int)))) || (wB (M.F 0) 108 && (decide ((M.nl : Int) < 1) || decide (16 < (M.nl : Int))))
theorem inB_a (h : Bool) (n hi : Int) (h0 : 0 ≤ hi) : inB h n 0 hi = ((h || n == 0) && !(decide (n < 0) || decide (hi < n))) := by
  unfold inB
  cases h
  · rw [Bool.eq_iff_iff]; simp; try omega
  · rw [Bool.eq_iff_iff]; simp; try omega
theorem inB_b (h : Bool) (n lo hi : Int) : inB h n lo hi = ((h || n == 0) && !(h && (decide (n < lo) || decide (hi < n)))) := by
  unfold inB
  cases h
  · simp
  · rw [Bool.eq_iff_iff]; simp; try omega
theorem inB_c (h : Bool) (n m : Int) (hm : 0 ≤ m) : inB h n (m + 1) 65535 = ((h || n == 0) && !(h && (decide (n < 1) || decide (65535 < n) || decide (n ≤ m)))) := by
  unfold inB
  cases h
  · simp
  · rw [Bool.eq_iff_iff]; simp; try omega
theorem kind_ok (k : Int) : decide (0 ≤ partsN k) = !(decide (k < 1) || decide (14 < k)) := by
  rcases kind_cases k with rfl | rfl | rfl | rfl | rfl | rfl | rfl | rfl | rfl | rfl | rfl | rfl | rfl | rfl | hh
  iterate 14
    · decide
  rw [parts_none k hh, Bool.eq_iff_iff]
  simp
  omega
theorem may_ref (M : Msg) : mayM M = (!mayC M && (!mayDd M && (!mayI M && (inpAll M.I M.ni && logOk (M.F 7) M.D M.nl)))) := by
  have w0 : wB (M.F 0) 115 = hasB (M.F 0) 0 := wB_has (M.F 0) 0 (by decide)
  have w1 : wB (M.F 0) 103 = hasB (M.F 0) 1 := wB_has (M.F 0) 1 (by decide)
  have w2 : wB (M.F 0) 102 = hasB (M.F 0) 2 := wB_has (M.F 0) 2 (by decide)
  have w3 : wB (M.F 0) 99 = hasB (M.F 0) 3 := wB_has (M.F 0) 3 (by decide)
  have w4 : wB (M.F 0) 110 = hasB (M.F 0) 4 := wB_has (M.F 0) 4 (by decide)
  have w5 : wB (M.F 0) 111 = hasB (M.F 0) 5 := wB_has (M.F 0) 5 (by decide)
  have w6 : wB (M.F 0) 98 = hasB (M.F 0) 6 := wB_has (M.F 0) 6 (by decide)
  have w7 : wB (M.F 0) 109 = hasB (M.F 0) 7 := wB_has (M.F 0) 7 (by decide)
  have w8 : wB (M.F 0) 105 = hasB (M.F 0) 8 := wB_has (M.F 0) 8 (by decide)
  have w9 : wB (M.F 0) 108 = hasB (M.F 0) 9 := wB_has (M.F 0) 9 (by decide)
  have w10 : wB (M.F 0) 100 = hasB (M.F 0) 10 := wB_has (M.F 0) 10 (by decide)
  unfold mayM mayC mayDd mayI bareM
  rw [w0, w1, w2, w3, w4, w5, w6, w7, w8, w9, w10, kind_ok]
  have a1 : decide (0 ≤ M.F 1) = !decide (M.F 1 < 0) := by rw [Bool.eq_iff_iff]; simp
  have a2 : decide (M.F 1 < 12) = !decide (12 ≤ M.F 1) := by rw [Bool.eq_iff_iff]; simp
  have a5 : decide ((7 : Int) < M.F 5) = decide (8 ≤ M.F 5) := by rw [Bool.eq_iff_iff]; simp; omega
  rw [a1, a2, inB_a _ _ 7 (by decide), inB_b _ (M.F 6), inB_a _ _ 1048576 (by decide), inB_a _ _ 9 (by decide), inB_a _ _ 65535 (by decide), inB_b _ (M.ni : Int), inB_b _ (M.nl : Int), inB_b _ (M.d.length : Int), a5]
  clear w0 w1 w2 w3 w4 w5 w6 w7 w8 w9 w10 a1 a2 a5
  by_cases h9 : M.F 9 < 0
  · rw [decide_eq_true h9]
    simp
  · rw [inB_c _ _ _ (by omega)]
    simp only [Bool.not_or, Bool.not_not]
    ac_rfl
theorem may_bd (M : Msg) (hC : mayC M = false) (hI : mayI M = false) : (0 ≤ M.F 7 ∧ M.F 7 ≤ 1048576) ∧ M.nl ≤ 16 := by
  unfold mayC at hC
  unfold mayI at hI
  simp only [Bool.or_eq_false_iff, decide_eq_false_iff_not, Bool.not_eq_false'] at hC hI
  obtain ⟨⟨⟨⟨⟨⟨⟨⟨⟨-, hb⟩, -⟩, -⟩, h7⟩, h7'⟩, -⟩, -⟩, -⟩, -⟩ := hC
  obtain ⟨-, h2⟩ := hI
  unfold bareM at hb
  simp only [Bool.and_eq_true] at hb
  obtain ⟨⟨-, h3⟩, -⟩ := hb
  refine ⟨by omega, ?_⟩
  rw [Bool.or_eq_true, beq_iff_eq] at h3
  rcases h3 with h3 | h3
  · rw [h3, Bool.true_and, Bool.or_eq_false_iff, decide_eq_false_iff_not, decide_eq_false_iff_not] at h2
    omega
  · omega
section
variable {ops : Array Oper} {C : World → Prop}
theorem quiet_load_entW {Q : Act → Prop} {a : Act} {o : Oper} {rest : List Oper} (hw : Region.wanted o (yielded ops a.tmps) = true) (x : Operand) (ho : o.op = .load 37 x) (b of : Nat) (hx : a.eval x = .pointer (some ⟨b, of, none⟩)) (cs : List Value)
    (hc : ∀ w, C w → w.rangeAt b of cs) (hi : (Try.prog.info? 37).map (·.size) = some cs.length) (h : wpQuiet Try.prog ops C Q rest (a.put o.dst (.agg cs.toArray))) : wpQuiet Try.prog ops C Q (o :: rest) a :=
  wpQuiet_step fun K hK => by
    rw [if_pos hw]
    refine ⟨.agg cs.toArray, fun w hC => ?_, hK _ h⟩
    unfold Oper.quietAt execOp
    simp only [ho, hx, Instr.loadAt, Instr.sureAddr, Sem.run_bind, Sem.run_pure, Result.andThen_ok, run_loadVar_mid (P := Try.prog) w b of 37 cs _ (hc w hC) Try.underlying37 rfl hi]
    exact ⟨rfl, rfl⟩
end
theorem mayInRef (x y z : Int) (hx : -128 ≤ x) (hy : -128 ≤ y) (w : World) :
    Calls Try.prog 32 #[.agg #[.int .i8 x, .int .i8 y, .int .u8 z]] w fun e w' => e = .returned (.bool (inpOk x y)) ∧ Below w.heap.size w w' := by
  have hB := (Below.refl w.heap.size w).alloc (Nat.le_refl _) (Obj.cells #[.int .i8 x, .int .i8 y, .int .u8 z] 34)
  have e : inpOk x y = ((x != -128) && (y != -128)) := by unfold inpOk; rw [Bool.eq_iff_iff]; simp; omega
  rw [e]
  rcases h1 : (x != -128) with _ | _ <;> rcases h2 : (y != -128) with _ | _
  all_goals (go_enter Try.func32, Try.ntmps32; go_wp2_with fail; go_ret; exact ⟨rfl, hB⟩)
set_option maxRecDepth 100000 in
set_option maxHeartbeats 8000000 in
theorem mayRefM_any (M : Msg) (iv lv dv : Value) (w : World) (h : RowsV w iv lv dv M) (hb : MsgB M) :
    Calls Try.prog 16 #[.agg (msgL M.F iv lv dv).toArray] w fun e w' => e = .returned (.bool (mayM M)) ∧ Below w.heap.size w w' := by
  have HMay := Lib.hid (may_ref M)
  have HMB := Lib.hid hb
  clear hb
  have hRB := h.below ((Below.refl w.heap.size w).alloc (Nat.le_refl _) (Obj.cells (msgL M.F iv lv dv).toArray 30)) (Nat.le_refl _)
  obtain ⟨⟨ia, ic, rfl, hi1, hi2, -⟩, ⟨la, lc, rfl, hl1, hl2, -⟩, ⟨da, dc, rfl, hd1, hd2, -⟩⟩ := h
  have HA := Lib.hid (msgAt_new M.F (.slice ia M.ni ic) (.slice la M.nl lc) (.slice da M.d.length dc) 30 w)
  have HB := Lib.hid ((Below.refl w.heap.size w).alloc (Nat.le_refl _) (Obj.cells (msgL M.F (.slice ia M.ni ic) (.slice la M.nl lc) (.slice da M.d.length dc)).toArray 30))
  have HR := Lib.hid hRB
  unfold maxLen at hi2 hl2 hd2
  clear hRB
  have c0 := HA.out.c0
  go_enter Try.func16, Try.ntmps16
  go_upto_region 2 with (fail)
  generalize w.alloc (Obj.cells (msgL M.F (.slice ia M.ni ic) (.slice la M.nl lc) (.slice da M.d.length dc)).toArray 30) = w1 at *
  clear c0
  refine wp_region_lit ?_
  refine regC (A := w.heap.size) (K := M.F 0) (F := M.F) (ia := ia) (la := la) (da := da) (ni := M.ni) (ic := ic) (nl := M.nl) (lc := lc) (dl := M.d.length) (dc := dc) (hM := fun w' hW' => HA.out.block (hW'.block _ HA.out.lt)) (law26 := fun w' hW' => bare_any M _ _ _ w' (HR.out.below hW' (Nat.le_refl _))) (e8 := rfl) (e9 := rfl) (e10 := rfl) (e11 := rfl) (e12 := rfl) (e13 := rfl) (e14 := rfl) (e15 := rfl) (e16 := rfl) (e17 := rfl) (e18 := rfl) (e19 := rfl) (e20 := rfl) (e21 := rfl) (e22 := rfl) (e23 := rfl) (e24 := rfl) (e25 := rfl) (e26 := rfl) (e27 := rfl) (e28 := rfl) (e29 := rfl) (e30 := rfl) (e31 := rfl) (e32 := rfl) (e33 := rfl) (e34 := rfl) (e35 := rfl) (e36 := rfl) (e37 := rfl) (e38 := rfl) (e39 := rfl) (e40 := rfl) (e41 := rfl) (e42 := rfl) (e43 := rfl) (e44 := rfl) (e45 := rfl) (e46 := rfl) (e47 := rfl) (e48 := rfl) (e49 := rfl) (e50 := rfl) (e51 := rfl) (e52 := rfl) (e53 := rfl) (e54 := rfl) (e55 := rfl) (e56 := rfl) (e57 := rfl) (e58 := rfl) (e59 := rfl) (e60 := rfl) (e61 := rfl) (e62 := rfl) (e63 := rfl) (e64 := rfl) (e65 := rfl) (e66 := rfl) (e67 := rfl) (e68 := rfl) (hg10 := rfl) (hg14 := rfl) (hg19 := rfl) (hg24 := rfl) (hg29 := rfl) (hg34 := rfl) (hg39 := rfl) (hg44 := rfl) (hg49 := rfl) (hg54 := rfl) (hg59 := rfl) (hg64 := rfl) (hN := of_decide_eq_true (by kernel_rfl)) (i1 := rfl) (i3 := rfl) (h67 := rfl) (h62 := rfl) (h57 := rfl) (h52 := rfl) (h47 := rfl) (h42 := rfl) (h37 := rfl) (h32 := rfl) (h22 := rfl) (h17 := rfl) (h9 := rfl) (h12 := rfl) (h := ?_)
  intro a' w2 hW hF hs
  have hs' : a'.tmps[68]? = some (.bool (mayC M)) := hs
  clear hs
  obtain ⟨u1, hu⟩ := hF.lit
  have hl : a' = ⟨#[.agg (msgL M.F (.slice ia M.ni ic) (.slice la M.nl lc) (.slice da M.d.length dc)).toArray, .pointer (some ⟨w.heap.size, 0, none⟩), .bool false, .int .i64 (M.F 0), undef, undef, .pointer (some ⟨w.heap.size, 0, none⟩), .int .i64 (M.F 0), u1 8, u1 9, u1 10, u1 11, u1 12, u1 13, u1 14, u1 15, u1 16, u1 17, u1 18, u1 19, u1 20, u1 21, u1 22, u1 23, u1 24, u1 25, u1 26, u1 27, u1 28, u1 29, u1 30, u1 31, u1 32, u1 33, u1 34, u1 35, u1 36, u1 37, u1 38, u1 39, u1 40, u1 41, u1 42, u1 43, u1 44, u1 45, u1 46, u1 47, u1 48, u1 49, u1 50, u1 51, u1 52, u1 53, u1 54, u1 55, u1 56, u1 57, u1 58, u1 59, u1 60, u1 61, u1 62, u1 63, u1 64, u1 65, u1 66, u1 67, u1 68, undef, undef, undef, undef, undef, undef, undef, undef, undef, undef, undef, undef, undef, undef, undef, undef, undef, undef, undef, undef, undef, undef, undef, undef, undef, undef, undef, undef, undef, undef, undef, undef, undef, undef, undef, undef, undef, undef, undef, undef, undef, undef, undef, undef, undef, undef, undef, undef, undef, undef, undef, undef, undef, undef, undef, undef, undef, undef, undef, undef, undef, undef, undef, undef, undef, undef, undef, undef, undef, undef, undef, undef, undef, undef, undef, undef, undef, undef, undef, undef, undef, undef, undef, undef, undef, undef, undef, undef, undef, undef, undef, undef, undef, undef, undef, undef, undef, undef, undef, undef, undef, undef, undef, undef, undef, undef, undef, undef, undef, undef, undef, undef, undef, undef, undef, undef, undef, undef, undef, undef], []⟩ := hu.trans (by kernel_rfl)
  clear hu hF
  subst hl
  have hsl : u1 68 = .bool (mayC M) := Option.some.inj hs'
  clear hs'
  rw [hsl]
  clear hsl
  generalize u1 = u1 at *
  replace HA := Lib.hid (HA.out.block (hW.block _ HA.out.lt))
  replace HB := Lib.hid (HB.out.trans (hW.mono HB.out.size))
  replace HR := Lib.hid (HR.out.below hW (Nat.le_refl _))
  clear hW
  rcases hq : (mayC M) with _ | _
  rotate_left
  · have HQ : Hid (mayM M = false) := Lib.hid (by rw [HMay.out, hq]; simp)
    clear hq
    go_wp2_with fail
    go_ret
    exact ⟨by rw [HQ.out]; rfl, HB.out⟩
  replace HMay : Hid (mayM M = (!mayDd M && (!mayI M && (inpAll M.I M.ni && logOk (M.F 7) M.D M.nl)))) := Lib.hid (by rw [HMay.out, hq]; simp)
  have HKC := Lib.hid hq
  clear hq
  go_upto_region 4 with (fail)
  refine wp_region_lit ?_
  refine regD (A := w.heap.size) (K := M.F 0) (F := M.F) (ia := ia) (la := la) (da := da) (ni := M.ni) (ic := ic) (nl := M.nl) (lc := lc) (dl := M.d.length) (dc := dc) (hM := fun w' hW' => HA.out.block (hW'.block _ HA.out.lt)) (law70 := fun w' _ => with_any (M.F 0) 103 (by decide) w') (law83 := fun w' _ => with_any (M.F 0) 111 (by decide) w') (law104 := fun w' _ => with_any (M.F 0) 100 (by decide) w') (e69 := rfl) (e70 := rfl) (e71 := rfl) (e72 := rfl) (e73 := rfl) (e74 := rfl) (e75 := rfl) (e76 := rfl) (e77 := rfl) (e78 := rfl) (e79 := rfl) (e80 := rfl) (e81 := rfl) (e82 := rfl) (e83 := rfl) (e84 := rfl) (e85 := rfl) (e86 := rfl) (e87 := rfl) (e88 := rfl) (e89 := rfl) (e90 := rfl) (e91 := rfl) (e92 := rfl) (e93 := rfl) (e94 := rfl) (e95 := rfl) (e96 := rfl) (e97 := rfl) (e98 := rfl) (e99 := rfl) (e100 := rfl) (e101 := rfl) (e102 := rfl) (e103 := rfl) (e104 := rfl) (e105 := rfl) (e106 := rfl) (e107 := rfl) (e108 := rfl) (e109 := rfl) (e110 := rfl) (e111 := rfl) (e112 := rfl) (e113 := rfl) (e114 := rfl) (e115 := rfl) (e116 := rfl) (e117 := rfl) (hg71 := rfl) (hg75 := rfl) (hg81 := rfl) (hg84 := rfl) (hg88 := rfl) (hg93 := rfl) (hg102 := rfl) (hg105 := rfl) (hg110 := rfl) (hN := of_decide_eq_true (by kernel_rfl)) (i1 := rfl) (i3 := rfl) (h109 := rfl) (h114 := rfl) (h87 := rfl) (h91 := rfl) (h98 := rfl) (h74 := rfl) (h78 := rfl) (h := ?_)
  intro a' w3 hW hF hs
  have hs' : a'.tmps[117]? = some (.bool (mayDd M)) := hs
  clear hs
  obtain ⟨u2, hu⟩ := hF.lit
  have hl : a' = ⟨#[.agg (msgL M.F (.slice ia M.ni ic) (.slice la M.nl lc) (.slice da M.d.length dc)).toArray, .pointer (some ⟨w.heap.size, 0, none⟩), .bool false, .int .i64 (M.F 0), undef, undef, .pointer (some ⟨w.heap.size, 0, none⟩), .int .i64 (M.F 0), u1 8, u1 9, u1 10, u1 11, u1 12, u1 13, u1 14, u1 15, u1 16, u1 17, u1 18, u1 19, u1 20, u1 21, u1 22, u1 23, u1 24, u1 25, u1 26, u1 27, u1 28, u1 29, u1 30, u1 31, u1 32, u1 33, u1 34, u1 35, u1 36, u1 37, u1 38, u1 39, u1 40, u1 41, u1 42, u1 43, u1 44, u1 45, u1 46, u1 47, u1 48, u1 49, u1 50, u1 51, u1 52, u1 53, u1 54, u1 55, u1 56, u1 57, u1 58, u1 59, u1 60, u1 61, u1 62, u1 63, u1 64, u1 65, u1 66, u1 67, .bool false, u2 69, u2 70, u2 71, u2 72, u2 73, u2 74, u2 75, u2 76, u2 77, u2 78, u2 79, u2 80, u2 81, u2 82, u2 83, u2 84, u2 85, u2 86, u2 87, u2 88, u2 89, u2 90, u2 91, u2 92, u2 93, u2 94, u2 95, u2 96, u2 97, u2 98, u2 99, u2 100, u2 101, u2 102, u2 103, u2 104, u2 105, u2 106, u2 107, u2 108, u2 109, u2 110, u2 111, u2 112, u2 113, u2 114, u2 115, u2 116, u2 117, undef, undef, undef, undef, undef, undef, undef, undef, undef, undef, undef, undef, undef, undef, undef, undef, undef, undef, undef, undef, undef, undef, undef, undef, undef, undef, undef, undef, undef, undef, undef, undef, undef, undef, undef, undef, undef, undef, undef, undef, undef, undef, undef, undef, undef, undef, undef, undef, undef, undef, undef, undef, undef, undef, undef, undef, undef, undef, undef, undef, undef, undef, undef, undef, undef, undef, undef, undef, undef, undef, undef], []⟩ := hu.trans (by kernel_rfl)
  clear hu hF
  subst hl
  have hsl : u2 117 = .bool (mayDd M) := Option.some.inj hs'
  clear hs'
  rw [hsl]
  clear hsl
  generalize u2 = u2 at *
  replace HA := Lib.hid (HA.out.block (hW.block _ HA.out.lt))
  replace HB := Lib.hid (HB.out.trans (hW.mono HB.out.size))
  replace HR := Lib.hid (HR.out.below hW (Nat.le_refl _))
  clear hW
  rcases hq : (mayDd M) with _ | _
  rotate_left
  · have HQ : Hid (mayM M = false) := Lib.hid (by rw [HMay.out, hq]; simp)
    clear hq
    go_wp2_with fail
    go_ret
    exact ⟨by rw [HQ.out]; rfl, HB.out⟩
  replace HMay : Hid (mayM M = (!mayI M && (inpAll M.I M.ni && logOk (M.F 7) M.D M.nl))) := Lib.hid (by rw [HMay.out, hq]; simp)
  have HKD := Lib.hid hq
  clear hq
  go_upto_region 6 with (fail)
  refine wp_region_lit ?_
  refine regI (A := w.heap.size) (K := M.F 0) (F := M.F) (ia := ia) (la := la) (da := da) (ni := M.ni) (ic := ic) (nl := M.nl) (lc := lc) (dl := M.d.length) (dc := dc) (hM := fun w' hW' => HA.out.block (hW'.block _ HA.out.lt)) (law119 := fun w' _ => with_any (M.F 0) 105 (by decide) w') (law134 := fun w' _ => with_any (M.F 0) 108 (by decide) w') (e118 := rfl) (e119 := rfl) (e120 := rfl) (e121 := rfl) (e122 := rfl) (e123 := rfl) (e124 := rfl) (e125 := rfl) (e126 := rfl) (e127 := rfl) (e128 := rfl) (e129 := rfl) (e130 := rfl) (e131 := rfl) (e132 := rfl) (e133 := rfl) (e134 := rfl) (e135 := rfl) (e136 := rfl) (e137 := rfl) (e138 := rfl) (e139 := rfl) (e140 := rfl) (e141 := rfl) (e142 := rfl) (e143 := rfl) (e144 := rfl) (e145 := rfl) (e146 := rfl) (e147 := rfl) (hg120 := rfl) (hg125 := rfl) (hg132 := rfl) (hg135 := rfl) (hg140 := rfl) (hN := of_decide_eq_true (by kernel_rfl)) (i1 := rfl) (i3 := rfl) (h139 := rfl) (h144 := rfl) (h124 := rfl) (h129 := rfl) (h := ?_)
  intro a' w4 hW hF hs
  have hs' : a'.tmps[147]? = some (.bool (mayI M)) := hs
  clear hs
  obtain ⟨u3, hu⟩ := hF.lit
  have hl : a' = ⟨#[.agg (msgL M.F (.slice ia M.ni ic) (.slice la M.nl lc) (.slice da M.d.length dc)).toArray, .pointer (some ⟨w.heap.size, 0, none⟩), .bool false, .int .i64 (M.F 0), undef, undef, .pointer (some ⟨w.heap.size, 0, none⟩), .int .i64 (M.F 0), u1 8, u1 9, u1 10, u1 11, u1 12, u1 13, u1 14, u1 15, u1 16, u1 17, u1 18, u1 19, u1 20, u1 21, u1 22, u1 23, u1 24, u1 25, u1 26, u1 27, u1 28, u1 29, u1 30, u1 31, u1 32, u1 33, u1 34, u1 35, u1 36, u1 37, u1 38, u1 39, u1 40, u1 41, u1 42, u1 43, u1 44, u1 45, u1 46, u1 47, u1 48, u1 49, u1 50, u1 51, u1 52, u1 53, u1 54, u1 55, u1 56, u1 57, u1 58, u1 59, u1 60, u1 61, u1 62, u1 63, u1 64, u1 65, u1 66, u1 67, .bool false, u2 69, u2 70, u2 71, u2 72, u2 73, u2 74, u2 75, u2 76, u2 77, u2 78, u2 79, u2 80, u2 81, u2 82, u2 83, u2 84, u2 85, u2 86, u2 87, u2 88, u2 89, u2 90, u2 91, u2 92, u2 93, u2 94, u2 95, u2 96, u2 97, u2 98, u2 99, u2 100, u2 101, u2 102, u2 103, u2 104, u2 105, u2 106, u2 107, u2 108, u2 109, u2 110, u2 111, u2 112, u2 113, u2 114, u2 115, u2 116, .bool false, u3 118, u3 119, u3 120, u3 121, u3 122, u3 123, u3 124, u3 125, u3 126, u3 127, u3 128, u3 129, u3 130, u3 131, u3 132, u3 133, u3 134, u3 135, u3 136, u3 137, u3 138, u3 139, u3 140, u3 141, u3 142, u3 143, u3 144, u3 145, u3 146, u3 147, undef, undef, undef, undef, undef, undef, undef, undef, undef, undef, undef, undef, undef, undef, undef, undef, undef, undef, undef, undef, undef, undef, undef, undef, undef, undef, undef, undef, undef, undef, undef, undef, undef, undef, undef, undef, undef, undef, undef, undef, undef], []⟩ := hu.trans (by kernel_rfl)
  clear hu hF
  subst hl
  have hsl : u3 147 = .bool (mayI M) := Option.some.inj hs'
  clear hs'
  rw [hsl]
  clear hsl
  generalize u3 = u3 at *
  replace HA := Lib.hid (HA.out.block (hW.block _ HA.out.lt))
  replace HB := Lib.hid (HB.out.trans (hW.mono HB.out.size))
  replace HR := Lib.hid (HR.out.below hW (Nat.le_refl _))
  clear hW
  rcases hq : (mayI M) with _ | _
  rotate_left
  · have HQ : Hid (mayM M = false) := Lib.hid (by rw [HMay.out, hq]; simp)
    clear hq
    go_wp2_with fail
    go_ret
    exact ⟨by rw [HQ.out]; rfl, HB.out⟩
  replace HMay : Hid (mayM M = (inpAll M.I M.ni && logOk (M.F 7) M.D M.nl)) := Lib.hid (by rw [HMay.out, hq]; simp)
  have HKI := Lib.hid hq
  clear hq
  have hbd := may_bd M HKC.out HKI.out
  clear HKC HKD HKI
  have HEvI := Lib.hid HR.out.i
  have HEvL := Lib.hid HR.out.l
  go_wp2_with fail
  have hA0 := HA.out.lt
  go_loopw [4] (fun i wr => ∃ k : Nat, k ≤ M.ni ∧ i = .int .i64 k ∧ inpAll M.I k = true ∧ Below w4.heap.size w4 wr) (fun i _ => M.ni - (intOf i).toNat)
  case atStart => exact ⟨0, Nat.zero_le _, rfl, rfl, Below.refl _ _⟩
  case round =>
    obtain ⟨k, hk, rfl, hok, hW⟩ := hrel
    have HOK := Lib.hid hok
    have HW := Lib.hid hW
    have c13 := (HA.out.block (hW.block _ hA0)).c13
    clear hok
    by_cases hlt : k < M.ni
    · obtain ⟨a0, c0, e0, -, -, hev⟩ := HEvI.out
      injection e0 with e1 e2 e3
      subst e1
      obtain ⟨b, o, rfl, hbl, hin0⟩ := hev (by omega)
      have hin := hin0.block (hW.block b hbl)
      have d0 := hin.x k hlt
      have d1 := hin.y k hlt
      have d2 := hin.z k hlt
      have hki : (k : Int) < (M.ni : Int) := by omega
      have HXY := Lib.hid (HMB.out.xy k hlt)
      have HN : Hid (inpAll M.I (k + 1) = (inpAll M.I k && inpOk (M.I (k * 3)) (M.I (k * 3 + 1)))) := Lib.hid rfl
      have HMono := Lib.hid (inpAll_mono M.I (k + 1) M.ni (by omega))
      clear hev hin0 hin hW e2 e3
      generalize M.I (k * 3) = x at *
      generalize M.I (k * 3 + 1) = y at *
      generalize M.I (k * 3 + 2) = z at *
      go_wp2_with fail
      refine (mayInRef x y z HXY.out.1.1 HXY.out.2.1 _).mono ?_
      rintro e w5 ⟨rfl, hb5⟩
      have HW2 := Lib.hid (HW.out.trans (hb5.mono HW.out.size))
      clear hb5 d0 d1 d2 c13
      cases hok : inpOk x y with
      | true =>
        have hrel : inpAll M.I (k + 1) = true := by rw [HN.out, HOK.out, hok]; rfl
        have HRel := Lib.hid hrel
        clear hok hrel
        go_wp2_with fail
        exact ⟨⟨k + 1, by omega, by go_num, HRel.out, HW2.out⟩, by simp [intOf]; omega⟩
      | false =>
        have hrel : inpAll M.I (k + 1) = false := by rw [HN.out, HOK.out, hok]; rfl
        have HQ : Hid (mayM M = false) := Lib.hid (by rw [HMay.out, HMono.out hrel]; rfl)
        clear hok hrel
        go_wp2_with fail
        go_ret
        exact ⟨by rw [HQ.out]; rfl, HB.out.trans (HW2.out.mono HB.out.size)⟩
    · obtain rfl : k = M.ni := by omega
      replace HMay : Hid (mayM M = logOk (M.F 7) M.D M.nl) := Lib.hid (by rw [HMay.out, HOK.out, Bool.true_and])
      replace HA := Lib.hid (HA.out.block (hW.block _ HA.out.lt))
      replace HB := Lib.hid (HB.out.trans (hW.mono HB.out.size))
      replace HEvL := Lib.hid (HEvL.out.below hW (Nat.le_refl _))
      clear HR HEvI hW HW hA0 hk hlt HOK
      go_wp2_with fail
      generalize wr = wi at *
      clear c13
      have hA0 := HA.out.lt
      go_loopw [5] (fun i wr => ∃ k : Nat, k ≤ M.nl ∧ i = .int .i64 k ∧ logOk (M.F 7) M.D k = true ∧ Below wi.heap.size wi wr) (fun i _ => M.nl - (intOf i).toNat)
      case atStart => exact ⟨0, Nat.zero_le _, rfl, rfl, Below.refl _ _⟩
      case round =>
        obtain ⟨k, hk, rfl, hok, hW⟩ := hrel
        have HOK := Lib.hid hok
        have HW := Lib.hid hW
        have HAr := Lib.hid (HA.out.block (hW.block _ hA0))
        have c14 := HAr.out.c14
        clear hok
        by_cases hlt : k < M.nl
        · obtain ⟨a0, c0, e0, -, -, hev⟩ := HEvL.out
          injection e0 with e1 e2 e3
          subst e1
          obtain ⟨b, o, rfl, hbl, hin0⟩ := hev (by omega)
          obtain ⟨sv, he0, hs0⟩ := hin0 k hlt
          have HC := Lib.hid (fun d os => (he0.block (hW.block b hbl)).block ((below_regrown wr d os).block b (Nat.lt_of_lt_of_le hbl hW.size)))
          have HS := Lib.hid (fun d os => (hs0.below hW (Nat.le_refl _)).below (below_regrown wr d os) (Nat.le_refl _))
          have z0 := cell_regrown (he0.block (hW.block b hbl)).c0
          have z14 := cell_regrown HAr.out.c14
          have z7 := cell_regrown HAr.out.c7
          have hki : (k : Int) < (M.nl : Int) := by omega
          have HEB := Lib.hid (HMB.out.e k hlt)
          have HN : Hid (logOk (M.F 7) M.D (k + 1) = (logOk (M.F 7) M.D k && (mayD (M.D k) && ((M.D k).fr == M.F 7 + k)))) := Lib.hid rfl
          have HMono := Lib.hid (logOk_mono (M.F 7) M.D (k + 1) M.nl (by omega))
          clear hev hin0 he0 hs0 e2 e3
          generalize M.D k = x at *
          have hmd0 : mayE x.fr x.n x.E x.I = mayD x := rfl
          rcases hmd : mayD x with _ | _
          · have HQ : Hid (mayM M = false) := Lib.hid (by rw [HMay.out]; exact HMono.out (by rw [HN.out, hmd]; simp))
            have HCall : Hid (∀ d os, Calls Try.prog 13 #[.agg (entL x.fr sv x.I).toArray] (Go.Sort.grow (redrawn wr d) os) fun e w' => e = .returned (.bool false) ∧ Below (Go.Sort.grow (redrawn wr d) os).heap.size (Go.Sort.grow (redrawn wr d) os) w') := Lib.hid (fun d os => by have := mayRef_any x.fr sv x.n x.E x.I _ (HS.out d os) HEB.out; rwa [hmd0, hmd] at this)
            clear hmd hmd0 HN HMono HMay
            go_wp2_with fail
            refine wp_region_quiet_below (by kernel_rfl) (by kernel_rfl) ?_
            iterate 4 (go_big_quiet_step (fail))
            refine quiet_load_entW (by rfl) _ rfl b (o + k * 26) rfl _ (by rintro w' ⟨p, rfl⟩; exact (HC.out p.d p.os).range) (size_ent _ _ _) ?_
            simp only [Act.put, List.setIfInBounds_toArray, List.set_cons_zero, List.set_cons_succ]
            go_big_quiet_step (exact Calls.regrown_of (HCall.out _ _))
            clear HCall HC HS
            repeat (go_big_quiet_step (fail))
            refine wpQuiet_nil ?_
            intro w10 hw'
            obtain ⟨⟨nq, osq⟩, hw3⟩ := hw'
            have bq := below_regrown wr nq osq
            rw [← hw3] at bq
            have HWn := Lib.hid (HW.out.trans (bq.mono HW.out.size))
            clear hw3 bq z0 z14 z7 c14
            go_wp2_with fail
            go_ret
            exact ⟨by rw [HQ.out]; rfl, HB.out.trans (HWn.out.mono HB.out.size)⟩
          · have HCall : Hid (∀ d os, Calls Try.prog 13 #[.agg (entL x.fr sv x.I).toArray] (Go.Sort.grow (redrawn wr d) os) fun e w' => e = .returned (.bool true) ∧ Below (Go.Sort.grow (redrawn wr d) os).heap.size (Go.Sort.grow (redrawn wr d) os) w') := Lib.hid (fun d os => by have := mayRef_any x.fr sv x.n x.E x.I _ (HS.out d os) HEB.out; rwa [hmd0, hmd] at this)
            rcases hfr : (x.fr == M.F 7 + (k : Int)) with _ | _
            · have HQ : Hid (mayM M = false) := Lib.hid (by rw [HMay.out]; exact HMono.out (by rw [HN.out, hfr]; simp))
              have hne : (x.fr != M.F 7 + (k : Int)) = true := by rw [bne, hfr]; rfl
              clear hmd hmd0 HN HMono HMay hfr
              go_wp2_with fail
              refine wp_region_quiet_below (by kernel_rfl) (by kernel_rfl) ?_
              iterate 4 (go_big_quiet_step (fail))
              refine quiet_load_entW (by rfl) _ rfl b (o + k * 26) rfl _ (by rintro w' ⟨p, rfl⟩; exact (HC.out p.d p.os).range) (size_ent _ _ _) ?_
              simp only [Act.put, List.setIfInBounds_toArray, List.set_cons_zero, List.set_cons_succ]
              go_big_quiet_step (exact Calls.regrown_of (HCall.out _ _))
              clear HCall HC HS
              repeat (go_big_quiet_step (fail))
              refine wpQuiet_nil ?_
              intro w10 hw'
              obtain ⟨⟨nq, osq⟩, hw3⟩ := hw'
              have bq := below_regrown wr nq osq
              rw [← hw3] at bq
              have HWn := Lib.hid (HW.out.trans (bq.mono HW.out.size))
              clear hw3 bq z0 z14 z7 c14
              go_wp2_with fail
              go_ret
              exact ⟨by rw [HQ.out]; rfl, HB.out.trans (HWn.out.mono HB.out.size)⟩
            · have HRel : Hid (logOk (M.F 7) M.D (k + 1) = true) := Lib.hid (by rw [HN.out, HOK.out, hmd, hfr]; rfl)
              have hne : (x.fr != M.F 7 + (k : Int)) = false := by rw [bne, hfr]; rfl
              clear hmd hmd0 HN HMono hfr
              go_wp2_with fail
              refine wp_region_quiet_below (by kernel_rfl) (by kernel_rfl) ?_
              iterate 4 (go_big_quiet_step (fail))
              refine quiet_load_entW (by rfl) _ rfl b (o + k * 26) rfl _ (by rintro w' ⟨p, rfl⟩; exact (HC.out p.d p.os).range) (size_ent _ _ _) ?_
              simp only [Act.put, List.setIfInBounds_toArray, List.set_cons_zero, List.set_cons_succ]
              go_big_quiet_step (exact Calls.regrown_of (HCall.out _ _))
              clear HCall HC HS
              repeat (go_big_quiet_step (fail))
              refine wpQuiet_nil ?_
              intro w10 hw'
              obtain ⟨⟨nq, osq⟩, hw3⟩ := hw'
              have bq := below_regrown wr nq osq
              rw [← hw3] at bq
              have HWn := Lib.hid (HW.out.trans (bq.mono HW.out.size))
              clear hw3 bq z0 z14 z7 c14
              go_wp2_with fail
              exact ⟨⟨k + 1, by omega, by go_num, HRel.out, HWn.out⟩, by simp [intOf]; omega⟩
        · obtain rfl : k = M.nl := by omega
          have HQ : Hid (mayM M = true) := Lib.hid (by rw [HMay.out, HOK.out])
          clear hk hlt
          go_wp2_with fail
          go_ret
          exact ⟨by rw [HQ.out]; rfl, HB.out.trans (hW.mono HB.out.size)⟩
end Go.Proofs.Ytembppihfcclcaa
