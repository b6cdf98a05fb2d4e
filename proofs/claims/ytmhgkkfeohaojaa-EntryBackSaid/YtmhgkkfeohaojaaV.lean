/-
  Entry: EntryBack: an entry comes back from its bytes; cut off, or with a byte behind, it does not.
-/
import Derived.Test.YtmhgkkfeohaojaaU
namespace Go.Proofs.Ytmhgkkfeohaojaa
set_option linter.unusedVariables false
open Go.ChangeShapes Go.WideShapes Go.ChangeAt Go.RowKit

set_option linter.unusedSimpArgs false
set_option maxRecDepth 100000 in
set_option maxHeartbeats 8000000 in
theorem law_EntryBack (v0 : Value) (a1 a2 : Int) (w : World) (w0 : IsEnt w v0) (w1 : (Lit.int .i64 a1).wf = true) (w2 : (Lit.int .u8 a2).wf = true) :
    Calls Try.prog 4 #[v0, .int .i64 a1, .int .u8 a2] w fun e w' => e = .returned (.bool true) ∧ Below w.heap.size w w' := by
  obtain ⟨fr, sve, n, E, I, rfl, hev, heb⟩ := w0
  have HC : Hid (0 ≤ a2 ∧ a2 < 256) := Lib.hid (by simp [Lit.wf, IntKind.min, IntKind.max, IntKind.signed, IntKind.bits] at w2; omega)
  clear w2
  have HE := Lib.hid (entAt_new fr sve I 28 w)
  have HB := Lib.hid ((Below.refl w.heap.size w).alloc (Nat.le_refl _) (Obj.cells (entL fr sve I).toArray 28))
  have HV := Lib.hid (hev.below HB.out (Nat.le_refl _))
  clear hev
  go_enter Try.func4, Try.ntmps4
  go_wp2_with (first | (refine wpList_load_g (by rfl) 28 _ rfl w.heap.size 0 rfl _ _ HE.out.range Try.underlying28 rfl (size_ent _ _ _) ?_))
  generalize w.alloc (Obj.cells (entL fr sve I).toArray 28) = wa at *
  rcases hm : mayE fr n E I with _ | _
  · refine (put_no fr sve n E I wa HV.out hm).mono ?_
    rintro e wb ⟨rfl, hb⟩
    replace HB := Lib.hid (HB.out.trans (hb.mono HB.out.size))
    clear hb
    go_wp2_with fail
    refine (told_law _).mono ?_
    rintro e wt ⟨rfl, hbt⟩
    replace HB := Lib.hid (HB.out.trans (hbt.mono HB.out.size))
    clear hbt
    go_wp2_with fail
    go_ret
    exact ⟨rfl, HB.out⟩
  have hbk := put_back hm heb
  have HOk := Lib.hid hbk.1
  have HSm := Lib.hid hbk.2
  have hln := put_len hm
  have HBy := Lib.hid (put_by heb)
  have HTu := Lib.hid (fun t ht => turned (t := t) hm heb ht)
  refine (put_yes fr sve n E I wa HV.out (by have := mayE_le hm; omega) hm).mono ?_
  rintro e wb ⟨⟨v, rfl, hO⟩, hb⟩
  generalize putB fr n E I = P at *
  obtain ⟨g, cap, rfl, -, -, hLc, hcm⟩ := hO.form (by omega)
  have HO := Lib.hid (hO.bytes (by omega))
  replace HE := Lib.hid (HE.out.block (hb.block _ HE.out.lt))
  replace HB := Lib.hid (HB.out.trans (hb.mono HB.out.size))
  replace HV := Lib.hid (HV.out.below hb (Nat.le_refl _))
  clear hb
  clear hO hbk hm heb
  go_wp2_with fail
  refine (get_any _ P wb HO.out HBy.out).mono ?_
  rintro e wc ⟨hp, hb⟩
  rcases hp with ⟨-, sx, rfl, hxv⟩ | ⟨hno, -⟩
  rotate_left
  · exact absurd HOk.out hno
  have HXV := Lib.hid hxv
  have hsx := hxv.one (gFr P) (gI P)
  clear hxv
  replace HE := Lib.hid (HE.out.block (hb.block _ HE.out.lt))
  replace HB := Lib.hid (HB.out.trans (hb.mono HB.out.size))
  replace HV := Lib.hid (HV.out.below hb (Nat.le_refl _))
  replace HO := Lib.hid (HO.out.below hb (Nat.le_refl _))
  clear hb
  generalize gFr P = xf at *
  generalize gN P = xn at *
  generalize gE P = xE at *
  generalize gI P = xI at *
  have HX := Lib.hid (entAt_new xf sx xI 28 wc)
  have hst := store_new xf sx xI hsx wc _ rfl
  have bA := (Below.refl wc.heap.size wc).alloc (Nat.le_refl _) (Obj.cells (entL xf sx xI).toArray 28)
  replace HE := Lib.hid (HE.out.block (bA.block _ HE.out.lt))
  replace HB := Lib.hid (HB.out.trans (bA.mono HB.out.size))
  replace HV := Lib.hid (HV.out.below bA (Nat.le_refl _))
  replace HO := Lib.hid (HO.out.below bA (Nat.le_refl _))
  replace HXV := Lib.hid (HXV.out.below bA (Nat.le_refl _))
  clear bA
  have hz := zeroEnt
  have HN : Hid (OwnB ((wc.alloc (Obj.cells (entL xf sx xI).toArray 28)).alloc (Obj.cells #[] 5)) (wc.heap.size + 1) (.slice (some ⟨wc.heap.size + 1, 0, none⟩) 0 0) []) := Lib.hid (OwnB.none' _ (by simp))
  have bN := (Below.refl (wc.alloc (Obj.cells (entL xf sx xI).toArray 28)).heap.size (wc.alloc (Obj.cells (entL xf sx xI).toArray 28))).alloc (Nat.le_refl _) (Obj.cells #[] 5)
  have HON := Lib.hid (HO.out.below bN (Nat.le_refl _))
  go_wp2_with (at_builtin; refine step_appV rfl (.tmp 35) (.tmp 36) rfl (wc.heap.size + 1) _ _ rfl HN.out (by simp) _ P HON.out (by omega) rfl (by omega) ?_)
  intro v1 w1 hO1 hb1
  have hs1 : (wc.alloc (Obj.cells (entL xf sx xI).toArray 28)).heap.size = wc.heap.size + 1 := by simp
  clear hst HN HON
  generalize wc.alloc (Obj.cells (entL xf sx xI).toArray 28) = W1 at *
  rw [← hs1] at hO1 hb1
  have bb := bN.trans hb1
  have HO1 := Lib.hid hO1
  clear hs1 bN hb1 hO1 hsx
  generalize wc.heap.size = tx at *
  go_wp2_with (at_builtin; refine step_app rfl (.tmp 37) (.tmp 39) rfl W1.heap.size _ P [a2] w1 rfl HO1.out bb.size 1 _ rfl rfl rfl (by omega) ?_)
  intro v2 w2 hO2 hb2
  have bb2 := bb.trans hb2
  have HO2 := Lib.hid hO2
  clear bb hb2 hO2 HO1
  replace HE := Lib.hid (HE.out.block (bb2.block _ HE.out.lt))
  replace HB := Lib.hid (HB.out.trans (bb2.mono HB.out.size))
  replace HV := Lib.hid (HV.out.below bb2 (Nat.le_refl _))
  replace HO := Lib.hid (HO.out.below bb2 (Nat.le_refl _))
  replace HX := Lib.hid (HX.out.block (bb2.block _ HX.out.lt))
  replace HXV := Lib.hid (HXV.out.below bb2 (Nat.le_refl _))
  clear bb2
  go_wp2_with fail
  refine (get_any v2 (P ++ [a2]) w2 (HO2.out.bytes (by simp)) (HBy.out.more HC.out)).mono ?_
  rintro e w3 ⟨hp, hb⟩
  rcases hp with ⟨hok, -⟩ | ⟨-, rfl⟩
  · exact absurd hok (not_more HOk.out a2)
  clear HO2
  replace HE := Lib.hid (HE.out.block (hb.block _ HE.out.lt))
  replace HB := Lib.hid (HB.out.trans (hb.mono HB.out.size))
  replace HV := Lib.hid (HV.out.below hb (Nat.le_refl _))
  replace HO := Lib.hid (HO.out.below hb (Nat.le_refl _))
  replace HX := Lib.hid (HX.out.block (hb.block _ HX.out.lt))
  replace HXV := Lib.hid (HXV.out.below hb (Nat.le_refl _))
  clear hb
  have hst := store_new 0 (.slice none 0 0) (fun _ => 0) (one_nil _ _) w3 _ rfl
  have bA := (Below.refl w3.heap.size w3).alloc (Nat.le_refl _) (Obj.cells (entL 0 (.slice none 0 0) (fun _ => 0)).toArray 28)
  replace HE := Lib.hid (HE.out.block (bA.block _ HE.out.lt))
  replace HB := Lib.hid (HB.out.trans (bA.mono HB.out.size))
  replace HV := Lib.hid (HV.out.below bA (Nat.le_refl _))
  replace HO := Lib.hid (HO.out.below bA (Nat.le_refl _))
  replace HX := Lib.hid (HX.out.block (bA.block _ HX.out.lt))
  replace HXV := Lib.hid (HXV.out.below bA (Nat.le_refl _))
  clear bA
  go_wp2_with (first | (refine wpList_load_g (by rfl) 28 _ rfl tx 0 rfl _ _ HX.out.range Try.underlying28 rfl (size_ent _ _ _) ?_) | (refine wpList_load_g (by rfl) 28 _ rfl w.heap.size 0 rfl _ _ HE.out.range Try.underlying28 rfl (size_ent _ _ _) ?_))
  clear hst
  generalize w3.alloc (Obj.cells (entL 0 (.slice none 0 0) (fun _ => 0)).toArray 28) = w4 at *
  refine (same_any xf sx xn xE xI fr sve n E I w4 HXV.out HV.out).mono ?_
  rintro e w5 ⟨rfl, hb⟩
  rw [HSm.out]
  replace HE := Lib.hid (HE.out.block (hb.block _ HE.out.lt))
  replace HB := Lib.hid (HB.out.trans (hb.mono HB.out.size))
  replace HV := Lib.hid (HV.out.below hb (Nat.le_refl _))
  replace HO := Lib.hid (HO.out.below hb (Nat.le_refl _))
  clear hb
  clear HX HXV HSm
  have hL6 : ¬ (P.length : Int) < 6 := by omega
  have hu0 : 0 ≤ IntKind.u64.wrap a1 := by simp [IntKind.wrap, IntKind.bits, IntKind.signed]; omega
  obtain ⟨k, hk, hK⟩ := cut_lt _ P.length hu0 (by omega) (by omega)
  rw [← Int.tmod_eq_emod_of_nonneg hu0] at hK
  have hkc : (k : Int) ≤ (cap : Int) := by omega
  have hkn : (k : Int) < (P.length : Int) := by omega
  unfold maxLen at hcm
  clear hu0
  go_wp2_with fail
  rw [hK]
  clear hK
  refine (get_any _ (P.take k) w5 (HO.out.front k (by omega)) (HBy.out.take k)).mono ?_
  rintro e w6 ⟨hp, hb⟩
  rcases hp with ⟨hok, -⟩ | ⟨-, rfl⟩
  · exact absurd hok (not_less HOk.out k hk)
  replace HE := Lib.hid (HE.out.block (hb.block _ HE.out.lt))
  replace HB := Lib.hid (HB.out.trans (hb.mono HB.out.size))
  replace HV := Lib.hid (HV.out.below hb (Nat.le_refl _))
  replace HO := Lib.hid (HO.out.below hb (Nat.le_refl _))
  clear hb
  have hst := store_new 0 (.slice none 0 0) (fun _ => 0) (one_nil _ _) w6 _ rfl
  have bA := (Below.refl w6.heap.size w6).alloc (Nat.le_refl _) (Obj.cells (entL 0 (.slice none 0 0) (fun _ => 0)).toArray 28)
  replace HE := Lib.hid (HE.out.block (bA.block _ HE.out.lt))
  replace HB := Lib.hid (HB.out.trans (bA.mono HB.out.size))
  replace HV := Lib.hid (HV.out.below bA (Nat.le_refl _))
  replace HO := Lib.hid (HO.out.below bA (Nat.le_refl _))
  clear bA
  have HN : Hid (OwnB ((w6.alloc (Obj.cells (entL 0 (.slice none 0 0) (fun _ => 0)).toArray 28)).alloc (Obj.cells #[] 5)) (w6.heap.size + 1) (.slice (some ⟨w6.heap.size + 1, 0, none⟩) 0 0) []) := Lib.hid (OwnB.none' _ (by simp))
  have bN := (Below.refl (w6.alloc (Obj.cells (entL 0 (.slice none 0 0) (fun _ => 0)).toArray 28)).heap.size (w6.alloc (Obj.cells (entL 0 (.slice none 0 0) (fun _ => 0)).toArray 28))).alloc (Nat.le_refl _) (Obj.cells #[] 5)
  have HON := Lib.hid (HO.out.below bN (Nat.le_refl _))
  go_wp2_with (at_builtin; refine step_appV rfl (.tmp 75) (.tmp 76) rfl (w6.heap.size + 1) _ _ rfl HN.out (by simp) _ P HON.out (by omega) rfl (by omega) ?_)
  intro v8 w8 hO8 hb8
  have hs7 : (w6.alloc (Obj.cells (entL 0 (.slice none 0 0) (fun _ => 0)).toArray 28)).heap.size = w6.heap.size + 1 := by simp
  clear hst HN HON
  generalize w6.alloc (Obj.cells (entL 0 (.slice none 0 0) (fun _ => 0)).toArray 28) = W7 at *
  rw [← hs7] at hO8 hb8
  have bb := bN.trans hb8
  clear hs7 bN hb8
  obtain ⟨gt, capt, rfl, hgt, hgl, hLt, hct⟩ := hO8.form (by omega)
  unfold maxLen at hct
  have cg := hO8.cell k hk
  have fg : w8.frozen? ⟨gt, k, none⟩ = false := World.ownsRow.frozenAt hO8 _
  have HO8 := Lib.hid hO8
  clear hO8
  have hxz := HBy.out k
  unfold zz at hxz
  have HSet := Lib.hid (set_same_iff P k hk)
  unfold zz at HSet
  generalize P.getD k 0 = x at *
  have hXor := xor_u8 x a2 hxz HC.out
  have HSt := Lib.hid (HO8.out.stored (by omega) k (bits .xor .u8 x a2))
  have bw := bb.setCell (p := ⟨gt, k, none⟩) hgt (.int .u8 (bits .xor .u8 x a2))
  have hkct : (k : Int) < (P.length : Int) := by omega
  go_wp2_with fail
  have HTby := Lib.hid (HBy.out.set k hXor.1)
  have HTP : Hid (P.set k (bits .xor .u8 x a2) = P ↔ a2 = 0) := Lib.hid ((HSet.out _).trans hXor.2)
  have htl : (P.set k (bits .xor .u8 x a2)).length = P.length := List.length_set ..
  have HQ := Lib.hid (HSt.out.bytes (by omega))
  replace HE := Lib.hid (HE.out.block (bw.block _ HE.out.lt))
  replace HB := Lib.hid (HB.out.trans (bw.mono HB.out.size))
  replace HV := Lib.hid (HV.out.below bw (Nat.le_refl _))
  clear bw
  clear HSt HSet hXor HO8 cg fg bb HO hxz
  generalize w8.setCell ⟨gt, k, none⟩ (.int .u8 (bits .xor .u8 x a2)) = w9 at *
  generalize P.set k (bits .xor .u8 x a2) = t at *
  refine (get_any _ t w9 HQ.out HTby.out).mono ?_
  rintro e wc ⟨hp, hb⟩
  rcases hp with ⟨ht, sx, rfl, hxv⟩ | ⟨hno, rfl⟩
  rotate_left
  · have hc0 : a2 ≠ 0 := fun h => hno (by rw [HTP.out.2 h]; exact HOk.out)
    have hcb : (a2 != 0) = true := by simpa using hc0
    have hst := store_new 0 (.slice none 0 0) (fun _ => 0) (one_nil _ _) wc _ rfl
    replace HB := Lib.hid (HB.out.trans (hb.mono HB.out.size))
    clear hb
    have bA := (Below.refl wc.heap.size wc).alloc (Nat.le_refl _) (Obj.cells (entL 0 (.slice none 0 0) (fun _ => 0)).toArray 28)
    replace HB := Lib.hid (HB.out.trans (bA.mono HB.out.size))
    clear bA
    go_wp2_with fail
    clear hst
    refine (told_law _).mono ?_
    rintro e wt ⟨rfl, hbt⟩
    replace HB := Lib.hid (HB.out.trans (hbt.mono HB.out.size))
    clear hbt
    go_wp2_with fail
    go_ret
    exact ⟨rfl, HB.out⟩
  have HXV := Lib.hid hxv
  have hsx := hxv.one (gFr t) (gI t)
  clear hxv
  replace HE := Lib.hid (HE.out.block (hb.block _ HE.out.lt))
  replace HB := Lib.hid (HB.out.trans (hb.mono HB.out.size))
  replace HV := Lib.hid (HV.out.below hb (Nat.le_refl _))
  replace HQ := Lib.hid (HQ.out.below hb (Nat.le_refl _))
  clear hb
  have hym := ht.2.1
  have hyp := ht.2.2
  have HSy := Lib.hid (HTu.out t ht)
  clear ht
  generalize gFr t = yf at *
  generalize gN t = yn at *
  generalize gE t = yE at *
  generalize gI t = yI at *
  have HX := Lib.hid (entAt_new yf sx yI 28 wc)
  have hst := store_new yf sx yI hsx wc _ rfl
  have bA := (Below.refl wc.heap.size wc).alloc (Nat.le_refl _) (Obj.cells (entL yf sx yI).toArray 28)
  replace HE := Lib.hid (HE.out.block (bA.block _ HE.out.lt))
  replace HB := Lib.hid (HB.out.trans (bA.mono HB.out.size))
  replace HV := Lib.hid (HV.out.below bA (Nat.le_refl _))
  replace HQ := Lib.hid (HQ.out.below bA (Nat.le_refl _))
  replace HXV := Lib.hid (HXV.out.below bA (Nat.le_refl _))
  clear bA
  go_wp2_with (first | (refine wpList_load_g (by rfl) 28 _ rfl wc.heap.size 0 rfl _ _ HX.out.range Try.underlying28 rfl (size_ent _ _ _) ?_))
  clear hst
  generalize wc.alloc (Obj.cells (entL yf sx yI).toArray 28) = wd at *
  generalize wc.heap.size = tx at *
  refine (put_yes yf sx yn yE yI wd HXV.out (by have := mayE_le hym; omega) hym).mono ?_
  rintro e we ⟨⟨v, rfl, hO⟩, hb⟩
  rw [hyp] at hO
  have HD := Lib.hid (hO.bytes (by omega))
  clear hO hyp hym
  replace HE := Lib.hid (HE.out.block (hb.block _ HE.out.lt))
  replace HB := Lib.hid (HB.out.trans (hb.mono HB.out.size))
  replace HV := Lib.hid (HV.out.below hb (Nat.le_refl _))
  replace HQ := Lib.hid (HQ.out.below hb (Nat.le_refl _))
  replace HXV := Lib.hid (HXV.out.below hb (Nat.le_refl _))
  replace HX := Lib.hid (HX.out.block (hb.block _ HX.out.lt))
  clear hb
  go_wp2_with fail
  refine (told_law _).mono ?_
  rintro e wt ⟨rfl, hbt⟩
  replace HE := Lib.hid (HE.out.block (hbt.block _ HE.out.lt))
  replace HB := Lib.hid (HB.out.trans (hbt.mono HB.out.size))
  replace HV := Lib.hid (HV.out.below hbt (Nat.le_refl _))
  replace HQ := Lib.hid (HQ.out.below hbt (Nat.le_refl _))
  replace HXV := Lib.hid (HXV.out.below hbt (Nat.le_refl _))
  replace HX := Lib.hid (HX.out.block (hbt.block _ HX.out.lt))
  replace HD := Lib.hid (HD.out.below hbt (Nat.le_refl _))
  clear hbt
  have hc1 := conv_bytes HD.out (by omega)
  have hc2 := conv_bytes HQ.out (by omega)
  clear HD HQ
  by_cases hc0 : a2 = 0
  · have hd : decide (t = P) = true := decide_eq_true (HTP.out.2 hc0)
    subst hc0
    go_wp2_with (first | (refine wpList_load_g (by rfl) 28 _ rfl tx 0 rfl _ _ HX.out.range Try.underlying28 rfl (size_ent _ _ _) ?_) | (refine wpList_load_g (by rfl) 28 _ rfl w.heap.size 0 rfl _ _ HE.out.range Try.underlying28 rfl (size_ent _ _ _) ?_))
    refine (same_any yf sx yn yE yI fr sve n E I wt HXV.out HV.out).mono ?_
    rintro e wz ⟨rfl, hb⟩
    rw [HSy.out, hd]
    replace HB := Lib.hid (HB.out.trans (hb.mono HB.out.size))
    clear hb
    go_wp2_with fail
    go_ret
    exact ⟨rfl, HB.out⟩
  · have hd : decide (t = P) = false := decide_eq_false (fun h => hc0 (HTP.out.1 h))
    have hcb : (a2 == 0) = false := by simpa using hc0
    go_wp2_with (first | (refine wpList_load_g (by rfl) 28 _ rfl tx 0 rfl _ _ HX.out.range Try.underlying28 rfl (size_ent _ _ _) ?_) | (refine wpList_load_g (by rfl) 28 _ rfl w.heap.size 0 rfl _ _ HE.out.range Try.underlying28 rfl (size_ent _ _ _) ?_))
    refine (same_any yf sx yn yE yI fr sve n E I wt HXV.out HV.out).mono ?_
    rintro e wz ⟨rfl, hb⟩
    rw [HSy.out, hd]
    replace HB := Lib.hid (HB.out.trans (hb.mono HB.out.size))
    clear hb
    go_wp2_with fail
    go_ret
    exact ⟨rfl, HB.out⟩
end Go.Proofs.Ytmhgkkfeohaojaa
