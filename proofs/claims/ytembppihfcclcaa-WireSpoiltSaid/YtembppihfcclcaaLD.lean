/-
  Wire: WireSpoilt: a datagram of which one byte is turned is told as spoilt.
-/
import Derived.Test.YtembppihfcclcaaMW
import Derived.Test.YtembppihfcclcaaLA
namespace Go.Proofs.Ytembppihfcclcaa
set_option linter.unusedVariables false
open Go.ChangeShapes Go.WideShapes Go.ChangeAt Go.RowKit

set_option linter.unusedSimpArgs false
theorem cut_lt2 (u : Int) (n : Nat) (h0 : 0 ≤ u) (hn : 0 < n) (hn2 : n ≤ 1000000) : ∃ k : Nat, k < n ∧ wrap64 (u % (n : Int)) = (k : Int) := by
  have h1 := Int.emod_nonneg u (show (n : Int) ≠ 0 by omega)
  have h2 := Int.emod_lt_of_pos u (show 0 < (n : Int) by omega)
  generalize u % (n : Int) = q at *
  refine ⟨q.toNat, by omega, ?_⟩
  unfold wrap64
  omega
theorem leV4 (bs : List Int) : leV bs 0 4 = zz bs 0 + zz bs 1 * 256 + zz bs 2 * 65536 + zz bs 3 * 16777216 := by
  show (0 : Int) + zz bs (0 + 0) * 256 ^ 0 + zz bs (0 + 1) * 256 ^ 1 + zz bs (0 + 2) * 256 ^ 2 + zz bs (0 + 3) * 256 ^ 3 = _
  rw [show (256 : Int) ^ 0 = 1 from rfl, show (256 : Int) ^ 1 = 256 from rfl, show (256 : Int) ^ 2 = 65536 from rfl, show (256 : Int) ^ 3 = 16777216 from rfl]
  simp only [Nat.zero_add]
  omega
theorem spoilt {P : List Int} (hP : ByteL P) (hs : SumOk P) (k : Nat) (hk : k < P.length) (z : Int) (hz : 0 ≤ z ∧ z < 256) (hne : z ≠ zz P k) : ¬ SumOk (P.set k z) := by
  intro ht
  have h1 := hs.2
  have h2 := ht.2
  have hzs := fun i => zz_set P k i z hk
  by_cases h4 : k < 4
  · rw [List.drop_set_of_lt h4, ← h1, leV4, leV4, hzs 0, hzs 1, hzs 2, hzs 3] at h2
    clear h1 hs ht hzs
    rcases (by omega : k = 0 ∨ k = 1 ∨ k = 2 ∨ k = 3) with rfl | rfl | rfl | rfl <;> simp at h2 <;> omega
  · have e4 : leV (P.set k z) 0 4 = leV P 0 4 := by
      rw [leV4, leV4, hzs 0, hzs 1, hzs 2, hzs 3, if_neg (by omega), if_neg (by omega), if_neg (by omega), if_neg (by omega)]
    rw [e4, h1] at h2
    have hln : ((P.set k z).drop 4).length = (P.drop 4).length := by rw [List.length_drop, List.length_drop, List.length_set]
    rw [hln] at h2
    refine crc_one (bs := P.drop 4) (bs' := (P.set k z).drop 4) (hP.drop 4) ((ByteL.set hP k hz).drop 4) (k - 4) (P.drop 4).length (by rw [List.length_drop]; omega) ?_ (fun i hi hne' => ?_) (by omega)
    · rw [zz_dropW, zz_dropW, show 4 + (k - 4) = k by omega, hzs k, if_pos rfl]
      exact fun e => hne e.symm
    · rw [zz_dropW, zz_dropW, hzs (4 + i), if_neg (by omega)]
set_option maxRecDepth 100000 in
set_option maxHeartbeats 8000000 in
theorem law_WireSpoilt (v0 : Value) (a1 a2 : Int) (w : World) (w0 : IsMsg w v0) (w1 : (Lit.int .i64 a1).wf = true) (w2 : (Lit.int .u8 a2).wf = true) :
    Calls Try.prog 7 #[v0, .int .i64 a1, .int .u8 a2] w fun e w' => e = .returned (.bool true) ∧ Below w.heap.size w w' := by
  obtain ⟨M, iv, lv, dv, rfl, hr, hmb, -⟩ := w0
  have HC : Hid (0 ≤ a2 ∧ a2 < 256) := Lib.hid (by simp [Lit.wf, IntKind.min, IntKind.max, IntKind.signed, IntKind.bits] at w2; omega)
  clear w2
  have HA := Lib.hid (msgAt_new M.F iv lv dv 30 w)
  have HB := Lib.hid ((Below.refl w.heap.size w).alloc (Nat.le_refl _) (Obj.cells (msgL M.F iv lv dv).toArray 30))
  have HR := Lib.hid (hr.below HB.out (Nat.le_refl _))
  have HM := Lib.hid hmb
  clear hr hmb
  go_enter Try.func7, Try.ntmps7
  go_wp2_with (refine wpList_load_g (op := ⟨some 12, _, _, _, _, _⟩) (by rfl) 30 _ rfl w.heap.size 0 rfl _ _ HA.out.range Try.underlying30 rfl (size_msg _ _ _ _) ?_)
  generalize w.alloc (Obj.cells (msgL M.F iv lv dv).toArray 30) = wa at *
  refine (fewM_any M iv lv dv wa HR.out).mono ?_
  rintro e wb ⟨⟨b, rfl⟩, hb⟩
  replace HA := Lib.hid (HA.out.block (hb.block _ HA.out.lt))
  replace HB := Lib.hid (HB.out.trans (hb.mono HB.out.size))
  replace HR := Lib.hid (HR.out.below hb (Nat.le_refl _))
  clear hb
  cases b
  · go_wp2_with fail
    refine (told_law _).mono ?_
    rintro e wt ⟨rfl, hbt⟩
    replace HB := Lib.hid (HB.out.trans (hbt.mono HB.out.size))
    clear hbt
    go_wp2_with fail
    go_ret
    exact ⟨rfl, HB.out⟩
  go_wp2_with (refine wpList_load_g (op := ⟨some 17, _, _, _, _, _⟩) (by rfl) 30 _ rfl w.heap.size 0 rfl _ _ HA.out.range Try.underlying30 rfl (size_msg _ _ _ _) ?_)
  rcases hm : mayM M with _ | _
  · refine (putM_no M iv lv dv wb HR.out hm).mono ?_
    rintro e wc ⟨rfl, hb⟩
    replace HB := Lib.hid (HB.out.trans (hb.mono HB.out.size))
    clear hb
    go_wp2_with fail
    refine (told_law _).mono ?_
    rintro e wt ⟨rfl, hbt⟩
    replace HB := Lib.hid (HB.out.trans (hbt.mono HB.out.size))
    clear hbt
    go_wp2_with fail
    go_ret
    exact ⟨rfl, HB.out⟩
  refine (putM_yes M iv lv dv wb HR.out HM.out hm).mono ?_
  rintro e wc ⟨⟨-, rfl⟩ | ⟨hl, v, rfl, hO⟩, hb⟩
  · replace HB := Lib.hid (HB.out.trans (hb.mono HB.out.size))
    clear hb
    go_wp2_with fail
    refine (told_law _).mono ?_
    rintro e wt ⟨rfl, hbt⟩
    replace HB := Lib.hid (HB.out.trans (hbt.mono HB.out.size))
    clear hbt
    go_wp2_with fail
    go_ret
    exact ⟨rfl, HB.out⟩
  obtain ⟨hsum, hok, hdr⟩ := ok_put hm HM.out hl
  have h4l := hsum.1
  have hPby := putM_by HM.out
  generalize putM M = P at *
  obtain ⟨g, cap, rfl, hgB, hgl, hLc, hcm⟩ := hO.form (by omega)
  have HSum := Lib.hid hsum
  have HOk := Lib.hid hok
  have HBy := Lib.hid hPby
  have hgw : w.heap.size ≤ g := Nat.le_trans HB.out.size hgB
  clear hsum hok hdr hm HM hPby
  replace HB := Lib.hid (HB.out.trans (hb.mono HB.out.size))
  clear hb
  have hL0 : ((P.length : Int) == 0) = false := by rw [beq_eq_false_iff_ne]; omega
  have hu0 : 0 ≤ IntKind.u64.wrap a1 := by simp [IntKind.wrap, IntKind.bits, IntKind.signed]; omega
  obtain ⟨k, hk, hK⟩ := cut_lt2 _ P.length hu0 (by omega) (by omega)
  rw [← Int.tmod_eq_emod_of_nonneg hu0] at hK
  have hkc : (k : Int) ≤ (cap : Int) := by omega
  have hkn : (k : Int) < (P.length : Int) := by omega
  unfold maxLen at hcm
  have cg := hO.cell k hk
  have fg : wc.frozen? ⟨g, k, none⟩ = false := World.ownsRow.frozenAt hO _
  have hxz := HBy.out k
  have HSet := Lib.hid (set_same_iff P k hk)
  have hSp := fun z hz hne => spoilt HBy.out HSum.out k hk z hz hne
  have hXor := xor_u8 (zz P k) a2 hxz HC.out
  have HSt := Lib.hid (hO.stored (by omega) k (bits .xor .u8 (zz P k) a2))
  have bw := (Below.refl w.heap.size wc).setCell (p := ⟨g, k, none⟩) hgw (.int .u8 (bits .xor .u8 (zz P k) a2))
  have HTby := Lib.hid (HBy.out.set k hXor.1)
  have HNo : Hid (a2 ≠ 0 → ¬ SumOk (P.set k (bits .xor .u8 (zz P k) a2))) := Lib.hid (fun h => hSp _ hXor.1 (fun e => h (hXor.2.1 e)))
  have HYes : Hid (a2 = 0 → SumOk (P.set k (bits .xor .u8 (zz P k) a2)) ∧ OkM (P.set k (bits .xor .u8 (zz P k) a2))) := Lib.hid (fun h => by
    rw [(HSet.out _).2 (hXor.2.2 h)]
    exact ⟨HSum.out, HOk.out⟩)
  have htl : (P.set k (bits .xor .u8 (zz P k) a2)).length = P.length := List.length_set ..
  have hcg : wc.cell? ⟨g, k, none⟩ = some (.int .u8 (zz P k)) := cg
  replace HB := Lib.hid (HB.out.trans bw)
  clear hO bw hSp HSet cg hXor hxz hu0
  generalize zz P k = x at *
  go_wp2_with fail
  try rw [hK]
  have HQ := Lib.hid (HSt.out.bytes0)
  clear HSt hcg fg hK hk hkc hkn
  generalize wc.setCell ⟨g, k, none⟩ (.int .u8 (bits .xor .u8 x a2)) = w9 at *
  generalize P.set k (bits .xor .u8 x a2) = t at *
  refine (getM_any _ t w9 HQ.out HTby.out).mono ?_
  rintro e wd ⟨hp, hb⟩
  replace HB := Lib.hid (HB.out.trans (hb.mono HB.out.size))
  clear hb
  by_cases hc0 : a2 = 0
  · obtain ⟨hs, ho⟩ := HYes.out hc0
    rcases hp with ⟨hno, -⟩ | ⟨-, hno, -⟩ | ⟨-, -, ix, lx, dx, rfl, hrow⟩
    · exact absurd hs hno
    · exact absurd ho hno
    have HXR := Lib.hid hrow
    have bA := (Below.refl wd.heap.size wd).alloc (Nat.le_refl _) (Obj.cells (msgL (gF (t.drop 4)) ix lx dx).toArray 30)
    have H1 := msgL_one HXR.out (gF (t.drop 4))
    have hcb : (a2 != 0) = false := by simpa using hc0
    clear hrow hs ho HNo HYes
    replace HB := Lib.hid (HB.out.trans (bA.mono HB.out.size))
    clear bA
    go_wp2_with (refine wpList_store_msg (op := ⟨none, Op.store 30 (.tmp 10) (.tmp 52), _, _, _, _⟩) rfl (.tmp 10) (.tmp 52) rfl (gF (t.drop 4)) ix lx dx H1 wd wd.heap.size rfl rfl rfl ?_)
    clear H1
    generalize wd.alloc (Obj.cells (msgL (gF (t.drop 4)) ix lx dx).toArray 30) = we at *
    refine (told_law _).mono ?_
    rintro e wt ⟨rfl, hbt⟩
    replace HB := Lib.hid (HB.out.trans (hbt.mono HB.out.size))
    clear hbt
    go_wp2_with fail
    go_ret
    exact ⟨rfl, HB.out⟩
  · have hno := HNo.out hc0
    rcases hp with ⟨-, rfl⟩ | ⟨hs, -⟩ | ⟨hs, -⟩
    rotate_left
    · exact absurd hs hno
    · exact absurd hs hno
    have hcb : (a2 != 0) = true := by simpa using hc0
    have bA := (Below.refl wd.heap.size wd).alloc (Nat.le_refl _) (Obj.cells (msgL zF (.slice none 0 0) (.slice none 0 0) (.slice none 0 0)).toArray 30)
    unfold zL
    clear hno HNo HYes
    replace HB := Lib.hid (HB.out.trans (bA.mono HB.out.size))
    clear bA
    go_wp2_with (refine wpList_store_msg (op := ⟨none, Op.store 30 (.tmp 10) (.tmp 52), _, _, _, _⟩) rfl (.tmp 10) (.tmp 52) rfl zF (.slice none 0 0) (.slice none 0 0) (.slice none 0 0) (nil_one _) wd wd.heap.size rfl rfl rfl ?_)
    generalize wd.alloc (Obj.cells (msgL zF (.slice none 0 0) (.slice none 0 0) (.slice none 0 0)).toArray 30) = we at *
    refine (told_law _).mono ?_
    rintro e wt ⟨rfl, hbt⟩
    replace HB := Lib.hid (HB.out.trans (hbt.mono HB.out.size))
    clear hbt
    go_wp2_with fail
    go_ret
    exact ⟨rfl, HB.out⟩
end Go.Proofs.Ytembppihfcclcaa
