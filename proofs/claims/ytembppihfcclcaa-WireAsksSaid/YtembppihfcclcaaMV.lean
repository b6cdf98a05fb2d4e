/-
  Wire: Same, of messages of the same numbers.
-/
import Derived.Test.YtembppihfcclcaaG25x
import Derived.Deep.DeepCutAuto
namespace Go.Proofs.Ytembppihfcclcaa
set_option linter.unusedVariables false
open Go.ChangeShapes Go.WideShapes Go.ChangeAt Go.RowKit

set_option linter.unusedSimpArgs false
theorem entsEq_all {D D' : Nat → Ent} : ∀ {n}, (∀ m, m < n → sameD (D m) (D' m) = true) → entsEq D D' n = true
  | 0, _ => rfl
  | n + 1, h => by unfold entsEq; rw [entsEq_all (fun m hm => h m (by omega)), h n (by omega)]; rfl
def rowsB (M N : Msg) : Bool := (decide (M.ni = N.ni) && insEq M.I N.I M.ni) && ((decide (M.nl = N.nl) && entsEq M.D N.D M.nl) && decide (M.d = N.d))
set_option maxRecDepth 100000 in
set_option maxHeartbeats 8000000 in
theorem sameF_any (F : Nat → Int) (M N : Msg) (iv lv dv iv' lv' dv' : Value) (w : World) (h : RowsV w iv lv dv M) (h' : RowsV w iv' lv' dv' N) (hd : ByteL M.d) (hd' : ByteL N.d) :
    Calls Try.prog 23 #[.agg (msgL F iv lv dv).toArray, .agg (msgL F iv' lv' dv').toArray] w fun e w' => e = .returned (.bool (rowsB M N)) ∧ Below w.heap.size w w' := by
  have hA1 := msgAt_new F iv lv dv 30 w
  have hB1 := (Below.refl w.heap.size w).alloc (Nat.le_refl _) (Obj.cells (msgL F iv lv dv).toArray 30)
  have hA2 := msgAt_new F iv' lv' dv' 30 (w.alloc (Obj.cells (msgL F iv lv dv).toArray 30))
  have hA1' := hA1.block (Below.heap_alloc _ (Obj.cells (msgL F iv' lv' dv').toArray 30) _ hA1.lt)
  have hB2 := hB1.alloc hB1.size (Obj.cells (msgL F iv' lv' dv').toArray 30)
  have hsz : (w.alloc (Obj.cells (msgL F iv lv dv).toArray 30)).heap.size = w.heap.size + 1 := by simp
  rw [hsz] at hA2
  have HA := Lib.hid hA1'
  have HA' := Lib.hid hA2
  have HB := Lib.hid hB2
  have HV := Lib.hid (h.below hB2 (Nat.le_refl _))
  have HV' := Lib.hid (h'.below hB2 (Nat.le_refl _))
  have HD := Lib.hid hd
  have HD' := Lib.hid hd'
  unfold rowsB
  have c0 := hA1'.c0
  have d0 := hA2.c0
  have c1 := hA1'.c1
  have d1 := hA2.c1
  have c2 := hA1'.c2
  have d2 := hA2.c2
  have c3 := hA1'.c3
  have d3 := hA2.c3
  have c4 := hA1'.c4
  have d4 := hA2.c4
  have c5 := hA1'.c5
  have d5 := hA2.c5
  have c6 := hA1'.c6
  have d6 := hA2.c6
  have c7 := hA1'.c7
  have d7 := hA2.c7
  have c8 := hA1'.c8
  have d8 := hA2.c8
  have c9 := hA1'.c9
  have d9 := hA2.c9
  have c10 := hA1'.c10
  have d10 := hA2.c10
  have c11 := hA1'.c11
  have d11 := hA2.c11
  have c12 := hA1'.c12
  have d12 := hA2.c12
  have c13 := hA1'.c13
  have d13 := hA2.c13
  clear hA1 hA2 hA1' hB1 hB2 hsz h h' hd hd'
  go_enter Try.func23, Try.ntmps23
  go_upto_region 1 with (fail)
  generalize (w.alloc (Obj.cells (msgL F iv lv dv).toArray 30)).alloc (Obj.cells (msgL F iv' lv' dv').toArray 30) = w1 at *
  go_cut [5] (fun c wx => c = .bool true ∧ wx = w1)
  case first =>
    go_wp2_with fail
    go_meet
    exact ⟨rfl, rfl⟩
  case rest =>
    obtain ⟨rfl, rfl⟩ := hcut
    clear c0 d0
    clear c1 d1
    clear c2 d2
    clear c3 d3
    clear c4 d4
    clear c5 d5
    clear c6 d6
    clear c7 d7
    clear c8 d8
    clear c9 d9
    clear c10 d10
    clear c11 d11
    clear c12 d12
    go_wp2_with fail
    refine (eqIn_any M.ni N.ni M.I N.I iv iv' _ HV.out.i HV'.out.i).mono ?_
    rintro e w2 ⟨rfl, hb2⟩
    have hsl := HA'.out.lt
    have c14 := (HA.out.block (hb2.block _ (by omega))).c14
    have d14 := (HA'.out.block (hb2.block _ (by omega))).c14
    have HA2 := Lib.hid (HA.out.block (hb2.block _ (by omega)))
    have HA2' := Lib.hid (HA'.out.block (hb2.block _ (by omega)))
    have HV2 := Lib.hid (HV.out.below hb2 (Nat.le_refl _))
    have HV2' := Lib.hid (HV'.out.below hb2 (Nat.le_refl _))
    have HB2 := Lib.hid (HB.out.trans (hb2.mono HB.out.size))
    have hsl2 : w.heap.size + 1 < w2.heap.size := HA2'.out.lt
    clear hb2 c13 d13 HV HV' HB HA HA'
    rcases hbi : (decide (M.ni = N.ni) && insEq M.I N.I M.ni) with _ | _
    · have HBI := Lib.hid hbi
      clear hbi
      go_wp2_with fail
      go_ret
      exact ⟨by rw [HBI.out]; rfl, HB2.out⟩
    have HBI := Lib.hid hbi
    clear hbi
    go_wp2_with fail
    refine (eqFunc_any M.nl N.nl M.D N.D lv lv' _ HV2.out.l HV2'.out.l).mono ?_
    rintro e w3 ⟨rfl, hb3⟩
    have c15 := (HA2.out.block (hb3.block _ (by omega))).c15
    have d15 := (HA2'.out.block (hb3.block _ (by omega))).c15
    have HV3 := Lib.hid (HV2.out.below hb3 (Nat.le_refl _))
    have HV3' := Lib.hid (HV2'.out.below hb3 (Nat.le_refl _))
    have HB3 := Lib.hid (HB2.out.trans (hb3.mono HB2.out.size))
    clear hb3 c14 d14 HV2 HV2' HB2
    rcases hbl : (decide (M.nl = N.nl) && entsEq M.D N.D M.nl) with _ | _
    · have HBL := Lib.hid hbl
      clear hbl
      go_wp2_with fail
      go_ret
      exact ⟨by rw [HBI.out, HBL.out]; rfl, HB3.out⟩
    have HBL := Lib.hid hbl
    clear hbl
    go_wp2_with fail
    refine (bytesEq_any dv dv' M.d N.d w3 HV3.out.d HV3'.out.d HD.out HD'.out).mono ?_
    rintro e w4 ⟨rfl, rfl⟩
    go_wp2_with fail
    go_ret
    exact ⟨by rw [HBI.out, HBL.out]; rfl, HB3.out⟩
theorem msgL_congr {F G : Nat → Int} (h : ∀ k, k < 13 → F k = G k) (iv lv dv : Value) : msgL F iv lv dv = msgL G iv lv dv := by
  unfold msgL
  refine List.map_congr_left (fun k hk => ?_)
  have hk16 : k < 16 := List.mem_range.1 hk
  unfold msgF
  by_cases h13 : k = 13
  · rw [if_pos h13, if_pos h13]
  · by_cases h14 : k = 14
    · rw [if_neg h13, if_neg h13, if_pos h14, if_pos h14]
    · by_cases h15 : k = 15
      · rw [if_neg h13, if_neg h13, if_neg h14, if_neg h14, if_pos h15, if_pos h15]
      · rw [if_neg h13, if_neg h13, if_neg h14, if_neg h14, if_neg h15, if_neg h15, h k (by omega)]
theorem MLike.rows {M N : Msg} (h : MLike M N) : rowsB M N = true := by
  unfold rowsB
  have h1 : insEq M.I N.I M.ni = true := (insEq_iff _ _ _).2 h.i
  have h2 : entsEq M.D N.D M.nl = true := entsEq_all (fun m hm => (h.l m hm).put.2.2)
  rw [h1, h2, decide_eq_true h.ni, decide_eq_true h.nl, decide_eq_true h.d]
  rfl
/-- Same says of two alike that they are. -/
theorem same_like {M N : Msg} (hl : MLike M N) (iv lv dv iv' lv' dv' : Value) (w : World) (h : RowsV w iv lv dv M) (h' : RowsV w iv' lv' dv' N) (hd : ByteL M.d) (hd' : ByteL N.d) :
    Calls Try.prog 23 #[.agg (msgL M.F iv lv dv).toArray, .agg (msgL N.F iv' lv' dv').toArray] w fun e w' => e = .returned (.bool true) ∧ Below w.heap.size w w' := by
  rw [msgL_congr hl.f iv lv dv, ← hl.rows]
  exact sameF_any N.F M N iv lv dv iv' lv' dv' w h h' hd hd'
end Go.Proofs.Ytembppihfcclcaa
