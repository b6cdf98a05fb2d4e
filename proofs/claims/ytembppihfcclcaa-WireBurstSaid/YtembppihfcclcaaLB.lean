/-
  Wire: WireBurst's law.
-/
import Derived.Test.YtembppihfcclcaaLA
namespace Go.Proofs.Ytembppihfcclcaa
set_option linter.unusedVariables false
open Go.ChangeShapes Go.WideShapes Go.ChangeAt Go.RowKit

set_option linter.unusedSimpArgs false
set_option maxRecDepth 100000 in
set_option maxHeartbeats 8000000 in
theorem law_WireBurst (v0 : Value) (a1 a2 : Int) (w : World) (w0 : IsBs w v0) (w1 : (Lit.int .i64 a1).wf = true) (w2 : (Lit.int .u32 a2).wf = true) :
    Calls Try.prog 8 #[v0, .int .i64 a1, .int .u32 a2] w fun e w' => e = .returned (.bool true) ∧ Below w.heap.size w w' := by
  obtain ⟨bs, hb, hby⟩ := w0
  have HT : Hid (0 ≤ a2 ∧ a2 < 4294967296) := Lib.hid (by simp [Lit.wf, IntKind.min, IntKind.max, IntKind.signed, IntKind.bits] at w2; omega)
  clear w2
  have HV := Lib.hid hb
  have HBY := Lib.hid hby
  have HB := Lib.hid (Below.refl w.heap.size w)
  obtain ⟨a, cap, rfl, hnc, hcm, -⟩ := hb
  unfold maxLen at hcm
  clear hby
  by_cases h1 : bs.length < 4
  · have hd : decide ((bs.length : Int) < 4) = true := decide_eq_true (by omega)
    go_enter Try.func8, Try.ntmps8
    go_wp2_with fail
    refine (told_law _).mono ?_
    rintro e wt ⟨rfl, hbt⟩
    go_wp2_with fail
    go_ret
    exact ⟨rfl, hbt⟩
  have hd : decide ((bs.length : Int) < 4) = false := decide_eq_false (by omega)
  have h1' : ¬ (bs.length : Int) < 4 := by omega
  by_cases h2 : 300 < bs.length
  · have h2' : (300 : Int) < bs.length := by omega
    go_enter Try.func8, Try.ntmps8
    go_wp2_with fail
    refine (told_law _).mono ?_
    rintro e wt ⟨rfl, hbt⟩
    go_wp2_with fail
    go_ret
    exact ⟨rfl, hbt⟩
  have h2' : ¬ (300 : Int) < bs.length := by omega
  by_cases h3 : a2 = 0
  · have h3' : (a2 == 0) = true := by simpa using h3
    go_enter Try.func8, Try.ntmps8
    go_wp2_with fail
    refine (told_law _).mono ?_
    rintro e wt ⟨rfl, hbt⟩
    go_wp2_with fail
    go_ret
    exact ⟨rfl, hbt⟩
  have h3' : (a2 == 0) = false := by simpa using h3
  have hu0 : 0 ≤ IntKind.u64.wrap a1 := by simp [IntKind.wrap, IntKind.bits, IntKind.signed]; omega
  obtain ⟨n3, hn3⟩ : ∃ n3 : Nat, n3 + 3 = bs.length := ⟨bs.length - 3, by omega⟩
  have hl3 : (bs.length : Int) - 3 = (n3 : Int) := by omega
  obtain ⟨k, hk, hK⟩ := cut_lt _ n3 hu0 (by omega) (by omega)
  have HN : Hid (OwnB (w.alloc (Obj.cells #[] 5)) w.heap.size (.slice (some ⟨w.heap.size, 0, none⟩) 0 0) []) := Lib.hid (OwnB.none' _ rfl)
  have bN := (Below.refl w.heap.size w).alloc (Nat.le_refl _) (Obj.cells #[] 5)
  have HVN := Lib.hid (HV.out.below bN (Nat.le_refl _))
  go_enter Try.func8, Try.ntmps8
  go_wp2_with (at_builtin; refine step_appV rfl (.tmp 31) (.tmp 32) rfl w.heap.size _ _ rfl HN.out (by simp) _ bs HVN.out (by omega) rfl (by omega) ?_)
  intro v1 w1' hO1 hb1
  have hBw := bN.trans hb1
  obtain ⟨g, capx, rfl, hgB, hgl, hcx, hcxm⟩ := hO1.form (by omega)
  have HO := Lib.hid hO1
  have HBw := Lib.hid hBw
  unfold maxLen at hcxm
  clear hO1 hb1 bN HN HVN hBw
  go_wp2_with fail
  try rw [hK]
  clear hK hu0
  have hgw := hgB
  clear hgl
  have HL : ∀ j, (turn bs k a2 j).length = bs.length := turn_len bs k a2
  have HLh := Lib.hid HL
  clear HL
  go_loopw [9] (fun i wr => ∃ j : Nat, j ≤ 4 ∧ i = .int .i64 j ∧ OwnB wr w.heap.size (.slice (some ⟨g, 0, none⟩) bs.length capx) (turn bs k a2 j) ∧ Below w.heap.size w wr) (fun i _ => 4 - (intOf i).toNat)
  case atStart => exact ⟨0, by omega, rfl, HO.out, HBw.out⟩
  case round =>
    obtain ⟨j, hj, rfl, hO, hB⟩ := hrel
    clear HO HBw
    have hlj := HLh.out j
    have hcell := hO.cell (k + j)
    have hfz : ∀ x, wr.frozen? ⟨g, x, none⟩ = false := fun x => by
      have hO' := hO
      rw [← hlj] at hO'
      exact World.ownsRow.frozenAt hO' x
    by_cases h4 : j = 4
    · subst h4
      have HO4 := Lib.hid hO
      have HB4 := Lib.hid hB
      clear hO hB hcell hfz
      have hgt := HT.out
      have HNe := Lib.hid (turned_sum HBY.out k a2 (by omega) hgt.1 hgt.2 h3)
      clear hgt
      go_wp2_with fail
      refine (told_law _).mono ?_
      rintro e wt ⟨rfl, hbt⟩
      have HVt := Lib.hid (HV.out.below (HB4.out.trans (hbt.mono HB4.out.size)) (Nat.le_refl _))
      have HOt := Lib.hid (HO4.out.bytes0.below hbt (Nat.le_refl _))
      replace HB4 := Lib.hid (HB4.out.trans (hbt.mono HB4.out.size))
      clear hbt HO4
      have HTB := Lib.hid (turn_by HBY.out k a2 4 (by omega))
      go_wp2_with fail
      refine (check_any _ (turn bs k a2 4) wt (by have := HOt.out; rw [← hlj] at this ⊢; exact this) HTB.out).mono ?_
      rintro e wu ⟨rfl, hbu⟩
      replace HVt := Lib.hid (HVt.out.below hbu (Nat.le_refl _))
      replace HB4 := Lib.hid (HB4.out.trans (hbu.mono HB4.out.size))
      clear hbu HOt
      go_wp2_with fail
      refine (check_any _ bs wu HVt.out HBY.out).mono ?_
      rintro e wv ⟨rfl, hbv⟩
      replace HB4 := Lib.hid (HB4.out.trans (hbv.mono HB4.out.size))
      clear hbv
      have hne := HNe.out
      rw [HLh.out 4] at hne
      generalize crc bs bs.length = c1 at *
      generalize crc (turn bs k a2 4) bs.length = c2 at *
      have hbne : ((c2 : Int) != (c1 : Int)) = true := by
        rw [bne_iff_ne]
        omega
      clear hne
      go_wp2_with fail
      go_ret
      exact ⟨rfl, HB4.out⟩
    · have hlt : (j : Int) < 4 := by omega
      have hkj : k + j < bs.length := by omega
      have cg := hcell (by rw [hlj]; exact hkj)
      have fg := hfz (k + j)
      have HOs := Lib.hid (hO.stored (by rw [hlj]; omega) (k + j) (bits .xor .u8 (zz bs (k + j)) (tB a2 j)))
      have HBs := Lib.hid (hB.setCell (p := ⟨g, k + j, none⟩) hgw (.int .u8 (bits .xor .u8 (zz bs (k + j)) (tB a2 j))))
      have hx0 := turn_zz bs k a2 j (by omega) (k + j)
      rw [if_neg (by omega)] at hx0
      have hcg : wr.cell? ⟨g, k + j, none⟩ = some (.int .u8 (zz bs (k + j))) := by rw [cg]; unfold zz at hx0 ⊢; rw [hx0]
      have htj : 0 ≤ a2 / 256 ^ j ∧ a2 / 256 ^ j < 4294967296 := by
        have h0 := HT.out
        rcases (by omega : j = 0 ∨ j = 1 ∨ j = 2 ∨ j = 3) with rfl | rfl | rfl | rfl <;> omega
      clear hO hB hcell hfz cg hx0
      rcases (by omega : j = 0 ∨ j = 1 ∨ j = 2 ∨ j = 3) with rfl | rfl | rfl | rfl
      · have e0 : a2 % 256 = tB a2 0 := by unfold tB; rw [show (256 : Int) ^ 0 = 1 from rfl, Int.ediv_one]
        have E0 := Lib.hid e0
        clear e0
        simp only [Nat.add_zero] at hcg fg
        go_wp2_with fail
        refine ⟨⟨1, by omega, rfl, ?_, ?_⟩, by simp [intOf]⟩
        · rw [E0.out]; exact HOs.out
        · rw [E0.out]; exact HBs.out
      · have e0 : a2 / 256 % 256 = tB a2 1 := by unfold tB; rw [show (256 : Int) ^ 1 = 256 from rfl]
        have E0 := Lib.hid e0
        clear e0
        go_wp2_with fail
        refine ⟨⟨2, by omega, rfl, ?_, ?_⟩, by simp [intOf]⟩
        · rw [E0.out]; exact HOs.out
        · rw [E0.out]; exact HBs.out
      · have e0 : a2 / 65536 % 256 = tB a2 2 := by unfold tB; rw [show (256 : Int) ^ 2 = 65536 from rfl]
        have E0 := Lib.hid e0
        clear e0
        go_wp2_with fail
        refine ⟨⟨3, by omega, rfl, ?_, ?_⟩, by simp [intOf]⟩
        · rw [E0.out]; exact HOs.out
        · rw [E0.out]; exact HBs.out
      · have e0 : a2 / 16777216 % 256 = tB a2 3 := by unfold tB; rw [show (256 : Int) ^ 3 = 16777216 from rfl]
        have E0 := Lib.hid e0
        clear e0
        go_wp2_with fail
        refine ⟨⟨4, by omega, rfl, ?_, ?_⟩, by simp [intOf]⟩
        · rw [E0.out]; exact HOs.out
        · rw [E0.out]; exact HBs.out
end Go.Proofs.Ytembppihfcclcaa
