/-
  Entry: EntryAsks: which entries may be, are the same, and their bytes, is what the document says.
-/
import Derived.Test.YtmhgkkfeohaojaaZE
import Derived.Test.YtmhgkkfeohaojaaT
namespace Go.Proofs.Ytmhgkkfeohaojaa
set_option linter.unusedVariables false
open Go.ChangeShapes Go.WideShapes Go.ChangeAt Go.RowKit

set_option linter.unusedSimpArgs false
def IsBs (w : World) (v : Value) : Prop := ∃ bs, BytesV w v bs ∧ ByteL bs
theorem open_bs {H : Type} {enc : TypeId × Value → H} {W : World} {b0 : Nat} {x : Value} {d : DataW H} {p : List MemPlace} (hv : Value.okWide Try.prog W .any b0 29 x) (h : DataW.Trod enc Try.prog W 0 (fun _ => true) true 29 x d p) : IsBs W x := by
  obtain ⟨a, len, cap, rfl, h1, h2, h3⟩ := open_rows [.u8] Try.underlying29 (by kernel_rfl) (by decide) (by kernel_rfl) hv h
  by_cases h0 : 0 < len
  · obtain ⟨b, o, z, e, hb, hc⟩ := h3 h0
    have hl : ((List.range len).map (fun i => z i 0)).length = len := by rw [List.length_map, List.length_range]
    have hz : ∀ i, i < len → ((List.range len).map (fun i => z i 0)).getD i 0 = z i 0 := fun i hi => by
      rw [List.getD_eq_getElem?_getD, List.getElem?_map, List.getElem?_range hi]; rfl
    refine ⟨(List.range len).map (fun i => z i 0), ⟨a, cap, by rw [hl], by omega, h2, fun _ => ⟨b, o, e, hb, fun i hi => ?_⟩⟩, ?_⟩
    · rw [hl] at hi
      rw [hz i hi]
      have := (hc i hi 0 .u8 rfl).1
      simpa using this
    · rw [byteL_iff]
      intro x hx
      rw [List.mem_map] at hx
      obtain ⟨i, hi, rfl⟩ := hx
      have := (hc i (List.mem_range.1 hi) 0 .u8 rfl).2
      simp [IntKind.min, IntKind.max, IntKind.bits, IntKind.signed] at this
      omega
  · obtain rfl : len = 0 := by omega
    exact ⟨[], ⟨a, cap, rfl, h1, h2, fun h => absurd h (by simp)⟩, fun i => by unfold zz; simp⟩
theorem conv_any {w : World} {v : Value} {bs : List Int} (h : BytesV w v bs) : (convert 29 9 v).run Try.prog w = .ok (.string (strOfNums bs)) w := by
  by_cases h0 : 0 < bs.length
  · exact conv_bytes h h0
  · obtain rfl : bs = [] := List.length_eq_zero_iff.1 (by omega)
    obtain ⟨a, cap, rfl, -⟩ := h
    cases a with
    | none => go_simp; rfl
    | some a => go_simp; rfl
section
variable {ops : Array Oper} {C : World → Prop}
theorem quiet_conv {Q : Act → Prop} {a : Act} {o : Oper} {rest : List Oper} (hw : Region.wanted o (yielded ops a.tmps) = true) (x : Operand) (ho : o.op = .convert 29 9 x) (v : Value) (hx : a.eval x = v) (s : ByteArray)
    (hc : ∀ w, C w → (convert 29 9 v).run Try.prog w = .ok (.string s) w) (h : wpQuiet Try.prog ops C Q rest (a.put o.dst (.string s))) : wpQuiet Try.prog ops C Q (o :: rest) a :=
  wpQuiet_step fun K hK => by
    rw [if_pos hw]
    refine ⟨.string s, fun w hC => ?_, hK _ h⟩
    unfold Oper.quietAt execOp
    simp only [ho, hx, Sem.run_bind, hc w hC, Result.andThen_ok, Sem.run_pure]
    exact ⟨rfl, rfl⟩
end
theorem sameB_refl (fr : Int) (n : Nat) (E : Nat → Nat → Int) (I : Nat → Int) : sameB fr n E I fr n E I = true := (putB_congr rfl rfl (fun _ _ => ⟨rfl, rfl, rfl, rfl⟩) (fun _ _ => rfl)).2.2
set_option maxRecDepth 100000 in
set_option maxHeartbeats 4000000 in
theorem law_EntryAsks (v0 v1 v2 : Value) (w : World) (w0 : IsEnt w v0) (w1 : IsEnt w v1) (w2 : IsBs w v2) :
    Calls Try.prog 3 #[v0, v1, v2] w fun e w' => e = .returned (.bool true) ∧ Below w.heap.size w w' := by
  obtain ⟨fr, sve, n, E, I, rfl, hev, heb⟩ := w0
  obtain ⟨fr2, sv2, n2, E2, I2, rfl, hev2, -⟩ := w1
  obtain ⟨bs, hbs, hby⟩ := w2
  have hA1 := entAt_new fr sve I 28 w
  have hB1 := (Below.refl w.heap.size w).alloc (Nat.le_refl _) (Obj.cells (entL fr sve I).toArray 28)
  have hA2 := entAt_new fr2 sv2 I2 28 (w.alloc (Obj.cells (entL fr sve I).toArray 28))
  have HE := Lib.hid (hA1.block (Below.heap_alloc _ (Obj.cells (entL fr2 sv2 I2).toArray 28) _ hA1.lt))
  have HB := Lib.hid (hB1.alloc hB1.size (Obj.cells (entL fr2 sv2 I2).toArray 28))
  have hsz : (w.alloc (Obj.cells (entL fr sve I).toArray 28)).heap.size = w.heap.size + 1 := by simp
  rw [hsz] at hA2
  have HY := Lib.hid hA2
  have HV := Lib.hid (hev.below HB.out (Nat.le_refl _))
  have HYV := Lib.hid (hev2.below HB.out (Nat.le_refl _))
  have HQ := Lib.hid (hbs.below HB.out (Nat.le_refl _))
  obtain ⟨va, vc, rfl, hlc, hcm, -⟩ := id hbs
  unfold maxLen at hcm
  have HBY := Lib.hid hby
  have HEB := Lib.hid heb
  clear hA1 hB1 hA2 hsz hev hev2 hbs hby heb
  go_enter Try.func3, Try.ntmps3
  go_wp2_with (first | (refine wpList_load_g (by rfl) 28 _ rfl w.heap.size 0 rfl _ _ HE.out.range Try.underlying28 rfl (size_ent _ _ _) ?_) | (refine wpList_load_g (by rfl) 28 _ rfl (w.heap.size + 1) 0 rfl _ _ HY.out.range Try.underlying28 rfl (size_ent _ _ _) ?_))
  generalize (w.alloc (Obj.cells (entL fr sve I).toArray 28)).alloc (Obj.cells (entL fr2 sv2 I2).toArray 28) = wa at *
  refine (few_any fr sve n E I _ HV.out).mono ?_
  rintro e wb ⟨rfl, hb⟩
  replace HE := Lib.hid (HE.out.block (hb.block _ HE.out.lt))
  replace HB := Lib.hid (HB.out.trans (hb.mono HB.out.size))
  replace HV := Lib.hid (HV.out.below hb (Nat.le_refl _))
  replace HY := Lib.hid (HY.out.block (hb.block _ HY.out.lt))
  replace HYV := Lib.hid (HYV.out.below hb (Nat.le_refl _))
  replace HQ := Lib.hid (HQ.out.below hb (Nat.le_refl _))
  clear hb
  by_cases hn : n ≤ 20
  rotate_left
  · rw [decide_eq_false hn]
    go_wp2_with fail
    refine (told_law _).mono ?_
    rintro e wt ⟨rfl, hbt⟩
    replace HB := Lib.hid (HB.out.trans (hbt.mono HB.out.size))
    clear hbt
    go_wp2_with fail
    go_ret
    exact ⟨rfl, HB.out⟩
  rw [decide_eq_true hn]
  go_wp2_with (first | (refine wpList_load_g (by rfl) 28 _ rfl w.heap.size 0 rfl _ _ HE.out.range Try.underlying28 rfl (size_ent _ _ _) ?_) | (refine wpList_load_g (by rfl) 28 _ rfl (w.heap.size + 1) 0 rfl _ _ HY.out.range Try.underlying28 rfl (size_ent _ _ _) ?_))
  refine (few_any fr2 sv2 n2 E2 I2 _ HYV.out).mono ?_
  rintro e wc ⟨rfl, hb⟩
  replace HE := Lib.hid (HE.out.block (hb.block _ HE.out.lt))
  replace HB := Lib.hid (HB.out.trans (hb.mono HB.out.size))
  replace HV := Lib.hid (HV.out.below hb (Nat.le_refl _))
  replace HY := Lib.hid (HY.out.block (hb.block _ HY.out.lt))
  replace HYV := Lib.hid (HYV.out.below hb (Nat.le_refl _))
  replace HQ := Lib.hid (HQ.out.below hb (Nat.le_refl _))
  clear hb
  by_cases hn2 : n2 ≤ 20
  rotate_left
  · rw [decide_eq_false hn2]
    go_wp2_with fail
    refine (told_law _).mono ?_
    rintro e wt ⟨rfl, hbt⟩
    replace HB := Lib.hid (HB.out.trans (hbt.mono HB.out.size))
    clear hbt
    go_wp2_with fail
    go_ret
    exact ⟨rfl, HB.out⟩
  rw [decide_eq_true hn2]
  by_cases hl : 200 < bs.length
  · have hli : (200 : Int) < (bs.length : Int) := by omega
    go_wp2_with fail
    refine (told_law _).mono ?_
    rintro e wt ⟨rfl, hbt⟩
    replace HB := Lib.hid (HB.out.trans (hbt.mono HB.out.size))
    clear hbt
    go_wp2_with fail
    go_ret
    exact ⟨rfl, HB.out⟩
  have hli : ¬ (200 : Int) < (bs.length : Int) := by omega
  go_wp2_with (first | (refine wpList_load_g (by rfl) 28 _ rfl w.heap.size 0 rfl _ _ HE.out.range Try.underlying28 rfl (size_ent _ _ _) ?_) | (refine wpList_load_g (by rfl) 28 _ rfl (w.heap.size + 1) 0 rfl _ _ HY.out.range Try.underlying28 rfl (size_ent _ _ _) ?_))
  refine (mayRef_any fr sve n E I _ HV.out HEB.out).mono ?_
  rintro e wd ⟨rfl, hb⟩
  replace HE := Lib.hid (HE.out.block (hb.block _ HE.out.lt))
  replace HB := Lib.hid (HB.out.trans (hb.mono HB.out.size))
  replace HV := Lib.hid (HV.out.below hb (Nat.le_refl _))
  replace HY := Lib.hid (HY.out.block (hb.block _ HY.out.lt))
  replace HYV := Lib.hid (HYV.out.below hb (Nat.le_refl _))
  replace HQ := Lib.hid (HQ.out.below hb (Nat.le_refl _))
  clear hb
  clear hli
  rcases hm : mayE fr n E I with _ | _
  · go_wp2_with (first | (refine wpList_load_g (by rfl) 28 _ rfl w.heap.size 0 rfl _ _ HE.out.range Try.underlying28 rfl (size_ent _ _ _) ?_))
    refine (put_no fr sve n E I wd HV.out hm).mono ?_
    rintro e we ⟨rfl, hb⟩
    replace HE := Lib.hid (HE.out.block (hb.block _ HE.out.lt))
    replace HB := Lib.hid (HB.out.trans (hb.mono HB.out.size))
    replace HV := Lib.hid (HV.out.below hb (Nat.le_refl _))
    replace HY := Lib.hid (HY.out.block (hb.block _ HY.out.lt))
    replace HYV := Lib.hid (HYV.out.below hb (Nat.le_refl _))
    replace HQ := Lib.hid (HQ.out.below hb (Nat.le_refl _))
    clear hb
    have HEA := Lib.hid (fun d os => HE.out.block ((below_regrown we d os).block _ HE.out.lt))
    have HMay : Hid (∀ d os, Calls Try.prog 12 #[.agg (entL fr sve I).toArray] (Go.Sort.grow (redrawn we d) os) fun e w' => e = .returned (.bool false) ∧ Below (Go.Sort.grow (redrawn we d) os).heap.size (Go.Sort.grow (redrawn we d) os) w') := Lib.hid (fun d os => by
      have := may_any fr sve n E I (Go.Sort.grow (redrawn we d) os) (HV.out.below (below_regrown we d os) (Nat.le_refl _))
      rwa [hm] at this)
    clear hm
    go_wp2_with fail
    refine wp_region_quiet_below (by kernel_rfl) (by kernel_rfl) ?_
    refine quiet_load_ent (by rfl) _ rfl w.heap.size 0 rfl _ (by rintro w' ⟨p, rfl⟩; exact (HEA.out p.d p.os).range) (size_ent _ _ _) ?_
    try simp only [Act.put, List.setIfInBounds_toArray, List.set_cons_zero, List.set_cons_succ]
    go_big_quiet_step (exact Calls.regrown_of (HMay.out _ _))
    repeat (go_big_quiet_step (fail))
    refine wpQuiet_nil ?_
    intro wf hw'
    obtain ⟨⟨nq, osq⟩, hw3⟩ := hw'
    have bq := below_regrown we nq osq
    rw [← hw3] at bq
    clear hw3 HEA HMay
    replace HE := Lib.hid (HE.out.block (bq.block _ HE.out.lt))
    replace HB := Lib.hid (HB.out.trans (bq.mono HB.out.size))
    replace HV := Lib.hid (HV.out.below bq (Nat.le_refl _))
    replace HY := Lib.hid (HY.out.block (bq.block _ HY.out.lt))
    replace HYV := Lib.hid (HYV.out.below bq (Nat.le_refl _))
    replace HQ := Lib.hid (HQ.out.below bq (Nat.le_refl _))
    clear bq
    go_wp2_with fail
    refine (get_any _ bs wf HQ.out HBY.out).mono ?_
    rintro e wg ⟨hp, hb⟩
    replace HE := Lib.hid (HE.out.block (hb.block _ HE.out.lt))
    replace HB := Lib.hid (HB.out.trans (hb.mono HB.out.size))
    replace HV := Lib.hid (HV.out.below hb (Nat.le_refl _))
    replace HY := Lib.hid (HY.out.block (hb.block _ HY.out.lt))
    replace HYV := Lib.hid (HYV.out.below hb (Nat.le_refl _))
    replace HQ := Lib.hid (HQ.out.below hb (Nat.le_refl _))
    clear hb
    rcases hp with ⟨hok, sy, rfl, hsy⟩ | ⟨hno, rfl⟩
    · skip
      have HPV := Lib.hid hsy
      have hst := store_new (gFr bs) sy (gI bs) (hsy.one _ _) wg _ rfl
      clear hsy
      have hz := zeroEnt
      have HP := Lib.hid (entAt_new (gFr bs) sy (gI bs) 28 wg)
      have bA := (Below.refl wg.heap.size wg).alloc (Nat.le_refl _) (Obj.cells (entL (gFr bs) sy (gI bs)).toArray 28)
      replace HE := Lib.hid (HE.out.block (bA.block _ HE.out.lt))
      replace HB := Lib.hid (HB.out.trans (bA.mono HB.out.size))
      replace HV := Lib.hid (HV.out.below bA (Nat.le_refl _))
      replace HY := Lib.hid (HY.out.block (bA.block _ HY.out.lt))
      replace HYV := Lib.hid (HYV.out.below bA (Nat.le_refl _))
      replace HQ := Lib.hid (HQ.out.below bA (Nat.le_refl _))
      replace HPV := Lib.hid (HPV.out.below bA (Nat.le_refl _))
      clear bA
      have hcv := conv_any HQ.out
      go_wp2_with fail
      clear hst hcv
      generalize wg.alloc (Obj.cells (entL (gFr bs) sy (gI bs)).toArray 28) = wh at *
      generalize wg.heap.size = tp at *
      refine (getRef_any bs HBY.out (by omega) wh).mono ?_
      rintro e wi ⟨hp2, hb⟩
      replace HE := Lib.hid (HE.out.block (hb.block _ HE.out.lt))
      replace HB := Lib.hid (HB.out.trans (hb.mono HB.out.size))
      replace HV := Lib.hid (HV.out.below hb (Nat.le_refl _))
      replace HY := Lib.hid (HY.out.block (hb.block _ HY.out.lt))
      replace HYV := Lib.hid (HYV.out.below hb (Nat.le_refl _))
      replace HQ := Lib.hid (HQ.out.below hb (Nat.le_refl _))
      replace HPV := Lib.hid (HPV.out.below hb (Nat.le_refl _))
      replace HP := Lib.hid (HP.out.block (hb.block _ HP.out.lt))
      clear hb
      rcases hp2 with ⟨-, sz, rfl, hsz⟩ | ⟨hno, -⟩
      rotate_left
      · exact absurd hok hno
      have HZV := Lib.hid hsz
      have hst := store_new (gFr bs) sz (gI bs) (hsz.one _ _) wi _ rfl
      clear hsz
      have HZ := Lib.hid (entAt_new (gFr bs) sz (gI bs) 28 wi)
      have bA := (Below.refl wi.heap.size wi).alloc (Nat.le_refl _) (Obj.cells (entL (gFr bs) sz (gI bs)).toArray 28)
      replace HE := Lib.hid (HE.out.block (bA.block _ HE.out.lt))
      replace HB := Lib.hid (HB.out.trans (bA.mono HB.out.size))
      replace HV := Lib.hid (HV.out.below bA (Nat.le_refl _))
      replace HY := Lib.hid (HY.out.block (bA.block _ HY.out.lt))
      replace HYV := Lib.hid (HYV.out.below bA (Nat.le_refl _))
      replace HPV := Lib.hid (HPV.out.below bA (Nat.le_refl _))
      replace HP := Lib.hid (HP.out.block (bA.block _ HP.out.lt))
      replace HZV := Lib.hid (HZV.out.below bA (Nat.le_refl _))
      clear bA
      clear HQ
      go_wp2_with fail
      clear hst
      generalize wi.alloc (Obj.cells (entL (gFr bs) sz (gI bs)).toArray 28) = wj at *
      generalize wi.heap.size = tz at *
      have HA3 := Lib.hid (fun d os => HE.out.block ((below_regrown wj d os).block _ HE.out.lt))
      have HA4 := Lib.hid (fun d os => HY.out.block ((below_regrown wj d os).block _ HY.out.lt))
      have HAP := Lib.hid (fun d os => HP.out.block ((below_regrown wj d os).block _ HP.out.lt))
      have HAZ := Lib.hid (fun d os => HZ.out.block ((below_regrown wj d os).block _ HZ.out.lt))
      have HYZ : Hid (∀ d os, Calls Try.prog 16 #[.agg (entL (gFr bs) sy (gI bs)).toArray, .agg (entL (gFr bs) sz (gI bs)).toArray] (Go.Sort.grow (redrawn wj d) os) fun e w' => e = .returned (.bool true) ∧ Below (Go.Sort.grow (redrawn wj d) os).heap.size (Go.Sort.grow (redrawn wj d) os) w') := Lib.hid (fun d os => by
        have := sameRef_any (gFr bs) sy (gN bs) (gE bs) (gI bs) (gFr bs) sz (gN bs) (gE bs) (gI bs) (Go.Sort.grow (redrawn wj d) os) (HPV.out.below (below_regrown wj d os) (Nat.le_refl _)) (HZV.out.below (below_regrown wj d os) (Nat.le_refl _))
        rwa [sameB_refl] at this)
      have HEE : Hid (∀ d os, Calls Try.prog 17 #[.agg (entL fr sve I).toArray, .agg (entL fr sve I).toArray] (Go.Sort.grow (redrawn wj d) os) fun e w' => e = .returned (.bool true) ∧ Below (Go.Sort.grow (redrawn wj d) os).heap.size (Go.Sort.grow (redrawn wj d) os) w') := Lib.hid (fun d os => by
        have := same_any fr sve n E I fr sve n E I (Go.Sort.grow (redrawn wj d) os) (HV.out.below (below_regrown wj d os) (Nat.le_refl _)) (HV.out.below (below_regrown wj d os) (Nat.le_refl _))
        rwa [sameB_refl] at this)
      have HSm := Lib.hid (fun d os => same_any fr sve n E I fr2 sv2 n2 E2 I2 (Go.Sort.grow (redrawn wj d) os) (HV.out.below (below_regrown wj d os) (Nat.le_refl _)) (HYV.out.below (below_regrown wj d os) (Nat.le_refl _)))
      have HSr := Lib.hid (fun d os => sameRef_any fr sve n E I fr2 sv2 n2 E2 I2 (Go.Sort.grow (redrawn wj d) os) (HV.out.below (below_regrown wj d os) (Nat.le_refl _)) (HYV.out.below (below_regrown wj d os) (Nat.le_refl _)))
      generalize sameB fr n E I fr2 n2 E2 I2 = sb at *
      refine wp_region_quiet_below (by kernel_rfl) (by kernel_rfl) ?_
      go_big_quiet_step (exact Calls.regrown_of (told_law _))
      iterate 6 (go_big_quiet_step (fail))
      refine quiet_load_ent (by rfl) _ rfl tp 0 rfl _ (by rintro w' ⟨p, rfl⟩; exact (HAP.out p.d p.os).range) (size_ent _ _ _) ?_
      try simp only [Act.put, List.setIfInBounds_toArray, List.set_cons_zero, List.set_cons_succ]
      refine quiet_load_ent (by rfl) _ rfl tz 0 rfl _ (by rintro w' ⟨p, rfl⟩; exact (HAZ.out p.d p.os).range) (size_ent _ _ _) ?_
      try simp only [Act.put, List.setIfInBounds_toArray, List.set_cons_zero, List.set_cons_succ]
      go_big_quiet_step (exact Calls.regrown_of (HYZ.out _ _))
      iterate 2 (go_big_quiet_step (fail))
      refine quiet_load_ent (by rfl) _ rfl w.heap.size 0 rfl _ (by rintro w' ⟨p, rfl⟩; exact (HA3.out p.d p.os).range) (size_ent _ _ _) ?_
      try simp only [Act.put, List.setIfInBounds_toArray, List.set_cons_zero, List.set_cons_succ]
      refine quiet_load_ent (by rfl) _ rfl (w.heap.size + 1) 0 rfl _ (by rintro w' ⟨p, rfl⟩; exact (HA4.out p.d p.os).range) (size_ent _ _ _) ?_
      try simp only [Act.put, List.setIfInBounds_toArray, List.set_cons_zero, List.set_cons_succ]
      go_big_quiet_step (exact Calls.regrown_of (HSm.out _ _))
      refine quiet_load_ent (by rfl) _ rfl w.heap.size 0 rfl _ (by rintro w' ⟨p, rfl⟩; exact (HA3.out p.d p.os).range) (size_ent _ _ _) ?_
      try simp only [Act.put, List.setIfInBounds_toArray, List.set_cons_zero, List.set_cons_succ]
      refine quiet_load_ent (by rfl) _ rfl (w.heap.size + 1) 0 rfl _ (by rintro w' ⟨p, rfl⟩; exact (HA4.out p.d p.os).range) (size_ent _ _ _) ?_
      try simp only [Act.put, List.setIfInBounds_toArray, List.set_cons_zero, List.set_cons_succ]
      go_big_quiet_step (exact Calls.regrown_of (HSr.out _ _))
      iterate 3 (go_big_quiet_step (fail))
      refine quiet_load_ent (by rfl) _ rfl w.heap.size 0 rfl _ (by rintro w' ⟨p, rfl⟩; exact (HA3.out p.d p.os).range) (size_ent _ _ _) ?_
      try simp only [Act.put, List.setIfInBounds_toArray, List.set_cons_zero, List.set_cons_succ]
      refine quiet_load_ent (by rfl) _ rfl w.heap.size 0 rfl _ (by rintro w' ⟨p, rfl⟩; exact (HA3.out p.d p.os).range) (size_ent _ _ _) ?_
      try simp only [Act.put, List.setIfInBounds_toArray, List.set_cons_zero, List.set_cons_succ]
      go_big_quiet_step (exact Calls.regrown_of (HEE.out _ _))
      repeat (go_big_quiet_step (fail))
      refine wpQuiet_nil ?_
      intro wk hw'
      obtain ⟨⟨nq, osq⟩, hw3⟩ := hw'
      have bq := below_regrown wj nq osq
      rw [← hw3] at bq
      clear hw3
      replace HB := Lib.hid (HB.out.trans (bq.mono HB.out.size))
      clear bq
      go_wp2_with fail
      go_ret
      exact ⟨rfl, HB.out⟩
    · skip
      have HPV : Hid (EvsV wg (.slice none 0 0) 0 (fun _ _ => 0)) := Lib.hid ⟨none, 0, rfl, Nat.le_refl _, Nat.zero_le _, fun h => absurd h (by omega)⟩
      have hst := store_new 0 (.slice none 0 0) (fun _ => 0) (one_nil _ _) wg _ rfl
      have hz := zeroEnt
      have HP := Lib.hid (entAt_new 0 (.slice none 0 0) (fun _ => 0) 28 wg)
      have bA := (Below.refl wg.heap.size wg).alloc (Nat.le_refl _) (Obj.cells (entL 0 (.slice none 0 0) (fun _ => 0)).toArray 28)
      replace HE := Lib.hid (HE.out.block (bA.block _ HE.out.lt))
      replace HB := Lib.hid (HB.out.trans (bA.mono HB.out.size))
      replace HV := Lib.hid (HV.out.below bA (Nat.le_refl _))
      replace HY := Lib.hid (HY.out.block (bA.block _ HY.out.lt))
      replace HYV := Lib.hid (HYV.out.below bA (Nat.le_refl _))
      replace HQ := Lib.hid (HQ.out.below bA (Nat.le_refl _))
      replace HPV := Lib.hid (HPV.out.below bA (Nat.le_refl _))
      clear bA
      have hcv := conv_any HQ.out
      go_wp2_with fail
      clear hst hcv
      generalize wg.alloc (Obj.cells (entL 0 (.slice none 0 0) (fun _ => 0)).toArray 28) = wh at *
      generalize wg.heap.size = tp at *
      refine (getRef_any bs HBY.out (by omega) wh).mono ?_
      rintro e wi ⟨hp2, hb⟩
      replace HE := Lib.hid (HE.out.block (hb.block _ HE.out.lt))
      replace HB := Lib.hid (HB.out.trans (hb.mono HB.out.size))
      replace HV := Lib.hid (HV.out.below hb (Nat.le_refl _))
      replace HY := Lib.hid (HY.out.block (hb.block _ HY.out.lt))
      replace HYV := Lib.hid (HYV.out.below hb (Nat.le_refl _))
      replace HQ := Lib.hid (HQ.out.below hb (Nat.le_refl _))
      replace HPV := Lib.hid (HPV.out.below hb (Nat.le_refl _))
      replace HP := Lib.hid (HP.out.block (hb.block _ HP.out.lt))
      clear hb
      rcases hp2 with ⟨hok, -⟩ | ⟨-, rfl⟩
      · exact absurd hok hno
      have HZV : Hid (EvsV wi (.slice none 0 0) 0 (fun _ _ => 0)) := Lib.hid ⟨none, 0, rfl, Nat.le_refl _, Nat.zero_le _, fun h => absurd h (by omega)⟩
      have hst := store_new 0 (.slice none 0 0) (fun _ => 0) (one_nil _ _) wi _ rfl
      have HZ := Lib.hid (entAt_new 0 (.slice none 0 0) (fun _ => 0) 28 wi)
      have bA := (Below.refl wi.heap.size wi).alloc (Nat.le_refl _) (Obj.cells (entL 0 (.slice none 0 0) (fun _ => 0)).toArray 28)
      replace HE := Lib.hid (HE.out.block (bA.block _ HE.out.lt))
      replace HB := Lib.hid (HB.out.trans (bA.mono HB.out.size))
      replace HV := Lib.hid (HV.out.below bA (Nat.le_refl _))
      replace HY := Lib.hid (HY.out.block (bA.block _ HY.out.lt))
      replace HYV := Lib.hid (HYV.out.below bA (Nat.le_refl _))
      replace HPV := Lib.hid (HPV.out.below bA (Nat.le_refl _))
      replace HP := Lib.hid (HP.out.block (bA.block _ HP.out.lt))
      replace HZV := Lib.hid (HZV.out.below bA (Nat.le_refl _))
      clear bA
      clear HQ
      go_wp2_with fail
      clear hst
      generalize wi.alloc (Obj.cells (entL 0 (.slice none 0 0) (fun _ => 0)).toArray 28) = wj at *
      generalize wi.heap.size = tz at *
      have HA3 := Lib.hid (fun d os => HE.out.block ((below_regrown wj d os).block _ HE.out.lt))
      have HA4 := Lib.hid (fun d os => HY.out.block ((below_regrown wj d os).block _ HY.out.lt))
      have HAP := Lib.hid (fun d os => HP.out.block ((below_regrown wj d os).block _ HP.out.lt))
      have HAZ := Lib.hid (fun d os => HZ.out.block ((below_regrown wj d os).block _ HZ.out.lt))
      have HYZ : Hid (∀ d os, Calls Try.prog 16 #[.agg (entL 0 (.slice none 0 0) (fun _ => 0)).toArray, .agg (entL 0 (.slice none 0 0) (fun _ => 0)).toArray] (Go.Sort.grow (redrawn wj d) os) fun e w' => e = .returned (.bool true) ∧ Below (Go.Sort.grow (redrawn wj d) os).heap.size (Go.Sort.grow (redrawn wj d) os) w') := Lib.hid (fun d os => by
        have := sameRef_any 0 (.slice none 0 0) 0 (fun _ _ => 0) (fun _ => 0) 0 (.slice none 0 0) 0 (fun _ _ => 0) (fun _ => 0) (Go.Sort.grow (redrawn wj d) os) (HPV.out.below (below_regrown wj d os) (Nat.le_refl _)) (HZV.out.below (below_regrown wj d os) (Nat.le_refl _))
        rwa [sameB_refl] at this)
      have HEE : Hid (∀ d os, Calls Try.prog 17 #[.agg (entL fr sve I).toArray, .agg (entL fr sve I).toArray] (Go.Sort.grow (redrawn wj d) os) fun e w' => e = .returned (.bool true) ∧ Below (Go.Sort.grow (redrawn wj d) os).heap.size (Go.Sort.grow (redrawn wj d) os) w') := Lib.hid (fun d os => by
        have := same_any fr sve n E I fr sve n E I (Go.Sort.grow (redrawn wj d) os) (HV.out.below (below_regrown wj d os) (Nat.le_refl _)) (HV.out.below (below_regrown wj d os) (Nat.le_refl _))
        rwa [sameB_refl] at this)
      have HSm := Lib.hid (fun d os => same_any fr sve n E I fr2 sv2 n2 E2 I2 (Go.Sort.grow (redrawn wj d) os) (HV.out.below (below_regrown wj d os) (Nat.le_refl _)) (HYV.out.below (below_regrown wj d os) (Nat.le_refl _)))
      have HSr := Lib.hid (fun d os => sameRef_any fr sve n E I fr2 sv2 n2 E2 I2 (Go.Sort.grow (redrawn wj d) os) (HV.out.below (below_regrown wj d os) (Nat.le_refl _)) (HYV.out.below (below_regrown wj d os) (Nat.le_refl _)))
      generalize sameB fr n E I fr2 n2 E2 I2 = sb at *
      refine wp_region_quiet_below (by kernel_rfl) (by kernel_rfl) ?_
      go_big_quiet_step (exact Calls.regrown_of (told_law _))
      iterate 6 (go_big_quiet_step (fail))
      refine quiet_load_ent (by rfl) _ rfl tp 0 rfl _ (by rintro w' ⟨p, rfl⟩; exact (HAP.out p.d p.os).range) (size_ent _ _ _) ?_
      try simp only [Act.put, List.setIfInBounds_toArray, List.set_cons_zero, List.set_cons_succ]
      refine quiet_load_ent (by rfl) _ rfl tz 0 rfl _ (by rintro w' ⟨p, rfl⟩; exact (HAZ.out p.d p.os).range) (size_ent _ _ _) ?_
      try simp only [Act.put, List.setIfInBounds_toArray, List.set_cons_zero, List.set_cons_succ]
      go_big_quiet_step (exact Calls.regrown_of (HYZ.out _ _))
      iterate 2 (go_big_quiet_step (fail))
      refine quiet_load_ent (by rfl) _ rfl w.heap.size 0 rfl _ (by rintro w' ⟨p, rfl⟩; exact (HA3.out p.d p.os).range) (size_ent _ _ _) ?_
      try simp only [Act.put, List.setIfInBounds_toArray, List.set_cons_zero, List.set_cons_succ]
      refine quiet_load_ent (by rfl) _ rfl (w.heap.size + 1) 0 rfl _ (by rintro w' ⟨p, rfl⟩; exact (HA4.out p.d p.os).range) (size_ent _ _ _) ?_
      try simp only [Act.put, List.setIfInBounds_toArray, List.set_cons_zero, List.set_cons_succ]
      go_big_quiet_step (exact Calls.regrown_of (HSm.out _ _))
      refine quiet_load_ent (by rfl) _ rfl w.heap.size 0 rfl _ (by rintro w' ⟨p, rfl⟩; exact (HA3.out p.d p.os).range) (size_ent _ _ _) ?_
      try simp only [Act.put, List.setIfInBounds_toArray, List.set_cons_zero, List.set_cons_succ]
      refine quiet_load_ent (by rfl) _ rfl (w.heap.size + 1) 0 rfl _ (by rintro w' ⟨p, rfl⟩; exact (HA4.out p.d p.os).range) (size_ent _ _ _) ?_
      try simp only [Act.put, List.setIfInBounds_toArray, List.set_cons_zero, List.set_cons_succ]
      go_big_quiet_step (exact Calls.regrown_of (HSr.out _ _))
      iterate 3 (go_big_quiet_step (fail))
      refine quiet_load_ent (by rfl) _ rfl w.heap.size 0 rfl _ (by rintro w' ⟨p, rfl⟩; exact (HA3.out p.d p.os).range) (size_ent _ _ _) ?_
      try simp only [Act.put, List.setIfInBounds_toArray, List.set_cons_zero, List.set_cons_succ]
      refine quiet_load_ent (by rfl) _ rfl w.heap.size 0 rfl _ (by rintro w' ⟨p, rfl⟩; exact (HA3.out p.d p.os).range) (size_ent _ _ _) ?_
      try simp only [Act.put, List.setIfInBounds_toArray, List.set_cons_zero, List.set_cons_succ]
      go_big_quiet_step (exact Calls.regrown_of (HEE.out _ _))
      repeat (go_big_quiet_step (fail))
      refine wpQuiet_nil ?_
      intro wk hw'
      obtain ⟨⟨nq, osq⟩, hw3⟩ := hw'
      have bq := below_regrown wj nq osq
      rw [← hw3] at bq
      clear hw3
      replace HB := Lib.hid (HB.out.trans (bq.mono HB.out.size))
      clear bq
      go_wp2_with fail
      go_ret
      exact ⟨rfl, HB.out⟩
  · go_wp2_with (first | (refine wpList_load_g (by rfl) 28 _ rfl w.heap.size 0 rfl _ _ HE.out.range Try.underlying28 rfl (size_ent _ _ _) ?_))
    refine (put_yes fr sve n E I wd HV.out (by omega) hm).mono ?_
    rintro e we ⟨⟨v, rfl, hO⟩, hb⟩
    have HO := Lib.hid (hO.bytes (by have := putB_pos fr n E I; omega))
    clear hO
    replace HE := Lib.hid (HE.out.block (hb.block _ HE.out.lt))
    replace HB := Lib.hid (HB.out.trans (hb.mono HB.out.size))
    replace HV := Lib.hid (HV.out.below hb (Nat.le_refl _))
    replace HY := Lib.hid (HY.out.block (hb.block _ HY.out.lt))
    replace HYV := Lib.hid (HYV.out.below hb (Nat.le_refl _))
    replace HQ := Lib.hid (HQ.out.below hb (Nat.le_refl _))
    clear hb
    have HEA := Lib.hid (fun d os => HE.out.block ((below_regrown we d os).block _ HE.out.lt))
    have HMay : Hid (∀ d os, Calls Try.prog 12 #[.agg (entL fr sve I).toArray] (Go.Sort.grow (redrawn we d) os) fun e w' => e = .returned (.bool true) ∧ Below (Go.Sort.grow (redrawn we d) os).heap.size (Go.Sort.grow (redrawn we d) os) w') := Lib.hid (fun d os => by
      have := may_any fr sve n E I (Go.Sort.grow (redrawn we d) os) (HV.out.below (below_regrown we d os) (Nat.le_refl _))
      rwa [hm] at this)
    have HPut := Lib.hid (fun d os => putRef_any fr sve n E I (Go.Sort.grow (redrawn we d) os) (HV.out.below (below_regrown we d os) (Nat.le_refl _)) HEB.out hm)
    have HCv := Lib.hid (fun d os => conv_any (HO.out.below (below_regrown we d os) (Nat.le_refl _)))
    clear hm
    go_wp2_with fail
    refine wp_region_quiet_below (by kernel_rfl) (by kernel_rfl) ?_
    refine quiet_load_ent (by rfl) _ rfl w.heap.size 0 rfl _ (by rintro w' ⟨p, rfl⟩; exact (HEA.out p.d p.os).range) (size_ent _ _ _) ?_
    try simp only [Act.put, List.setIfInBounds_toArray, List.set_cons_zero, List.set_cons_succ]
    go_big_quiet_step (exact Calls.regrown_of (HMay.out _ _))
    iterate 25 (go_big_quiet_step (fail))
    refine quiet_conv (by rfl) _ rfl _ rfl _ (by rintro w' ⟨p, rfl⟩; exact HCv.out p.d p.os) ?_
    try simp only [Act.put, List.setIfInBounds_toArray, List.set_cons_zero, List.set_cons_succ]
    refine quiet_load_ent (by rfl) _ rfl w.heap.size 0 rfl _ (by rintro w' ⟨p, rfl⟩; exact (HEA.out p.d p.os).range) (size_ent _ _ _) ?_
    try simp only [Act.put, List.setIfInBounds_toArray, List.set_cons_zero, List.set_cons_succ]
    go_big_quiet_step (exact Calls.regrown_of (HPut.out _ _))
    repeat (go_big_quiet_step (fail))
    refine wpQuiet_nil ?_
    intro wf hw'
    obtain ⟨⟨nq, osq⟩, hw3⟩ := hw'
    have bq := below_regrown we nq osq
    rw [← hw3] at bq
    clear hw3 HEA HMay HPut HCv HO
    replace HE := Lib.hid (HE.out.block (bq.block _ HE.out.lt))
    replace HB := Lib.hid (HB.out.trans (bq.mono HB.out.size))
    replace HV := Lib.hid (HV.out.below bq (Nat.le_refl _))
    replace HY := Lib.hid (HY.out.block (bq.block _ HY.out.lt))
    replace HYV := Lib.hid (HYV.out.below bq (Nat.le_refl _))
    replace HQ := Lib.hid (HQ.out.below bq (Nat.le_refl _))
    clear bq
    go_wp2_with fail
    refine (get_any _ bs wf HQ.out HBY.out).mono ?_
    rintro e wg ⟨hp, hb⟩
    replace HE := Lib.hid (HE.out.block (hb.block _ HE.out.lt))
    replace HB := Lib.hid (HB.out.trans (hb.mono HB.out.size))
    replace HV := Lib.hid (HV.out.below hb (Nat.le_refl _))
    replace HY := Lib.hid (HY.out.block (hb.block _ HY.out.lt))
    replace HYV := Lib.hid (HYV.out.below hb (Nat.le_refl _))
    replace HQ := Lib.hid (HQ.out.below hb (Nat.le_refl _))
    clear hb
    rcases hp with ⟨hok, sy, rfl, hsy⟩ | ⟨hno, rfl⟩
    · skip
      have HPV := Lib.hid hsy
      have hst := store_new (gFr bs) sy (gI bs) (hsy.one _ _) wg _ rfl
      clear hsy
      have hz := zeroEnt
      have HP := Lib.hid (entAt_new (gFr bs) sy (gI bs) 28 wg)
      have bA := (Below.refl wg.heap.size wg).alloc (Nat.le_refl _) (Obj.cells (entL (gFr bs) sy (gI bs)).toArray 28)
      replace HE := Lib.hid (HE.out.block (bA.block _ HE.out.lt))
      replace HB := Lib.hid (HB.out.trans (bA.mono HB.out.size))
      replace HV := Lib.hid (HV.out.below bA (Nat.le_refl _))
      replace HY := Lib.hid (HY.out.block (bA.block _ HY.out.lt))
      replace HYV := Lib.hid (HYV.out.below bA (Nat.le_refl _))
      replace HQ := Lib.hid (HQ.out.below bA (Nat.le_refl _))
      replace HPV := Lib.hid (HPV.out.below bA (Nat.le_refl _))
      clear bA
      have hcv := conv_any HQ.out
      go_wp2_with fail
      clear hst hcv
      generalize wg.alloc (Obj.cells (entL (gFr bs) sy (gI bs)).toArray 28) = wh at *
      generalize wg.heap.size = tp at *
      refine (getRef_any bs HBY.out (by omega) wh).mono ?_
      rintro e wi ⟨hp2, hb⟩
      replace HE := Lib.hid (HE.out.block (hb.block _ HE.out.lt))
      replace HB := Lib.hid (HB.out.trans (hb.mono HB.out.size))
      replace HV := Lib.hid (HV.out.below hb (Nat.le_refl _))
      replace HY := Lib.hid (HY.out.block (hb.block _ HY.out.lt))
      replace HYV := Lib.hid (HYV.out.below hb (Nat.le_refl _))
      replace HQ := Lib.hid (HQ.out.below hb (Nat.le_refl _))
      replace HPV := Lib.hid (HPV.out.below hb (Nat.le_refl _))
      replace HP := Lib.hid (HP.out.block (hb.block _ HP.out.lt))
      clear hb
      rcases hp2 with ⟨-, sz, rfl, hsz⟩ | ⟨hno, -⟩
      rotate_left
      · exact absurd hok hno
      have HZV := Lib.hid hsz
      have hst := store_new (gFr bs) sz (gI bs) (hsz.one _ _) wi _ rfl
      clear hsz
      have HZ := Lib.hid (entAt_new (gFr bs) sz (gI bs) 28 wi)
      have bA := (Below.refl wi.heap.size wi).alloc (Nat.le_refl _) (Obj.cells (entL (gFr bs) sz (gI bs)).toArray 28)
      replace HE := Lib.hid (HE.out.block (bA.block _ HE.out.lt))
      replace HB := Lib.hid (HB.out.trans (bA.mono HB.out.size))
      replace HV := Lib.hid (HV.out.below bA (Nat.le_refl _))
      replace HY := Lib.hid (HY.out.block (bA.block _ HY.out.lt))
      replace HYV := Lib.hid (HYV.out.below bA (Nat.le_refl _))
      replace HPV := Lib.hid (HPV.out.below bA (Nat.le_refl _))
      replace HP := Lib.hid (HP.out.block (bA.block _ HP.out.lt))
      replace HZV := Lib.hid (HZV.out.below bA (Nat.le_refl _))
      clear bA
      clear HQ
      go_wp2_with fail
      clear hst
      generalize wi.alloc (Obj.cells (entL (gFr bs) sz (gI bs)).toArray 28) = wj at *
      generalize wi.heap.size = tz at *
      have HA3 := Lib.hid (fun d os => HE.out.block ((below_regrown wj d os).block _ HE.out.lt))
      have HA4 := Lib.hid (fun d os => HY.out.block ((below_regrown wj d os).block _ HY.out.lt))
      have HAP := Lib.hid (fun d os => HP.out.block ((below_regrown wj d os).block _ HP.out.lt))
      have HAZ := Lib.hid (fun d os => HZ.out.block ((below_regrown wj d os).block _ HZ.out.lt))
      have HYZ : Hid (∀ d os, Calls Try.prog 16 #[.agg (entL (gFr bs) sy (gI bs)).toArray, .agg (entL (gFr bs) sz (gI bs)).toArray] (Go.Sort.grow (redrawn wj d) os) fun e w' => e = .returned (.bool true) ∧ Below (Go.Sort.grow (redrawn wj d) os).heap.size (Go.Sort.grow (redrawn wj d) os) w') := Lib.hid (fun d os => by
        have := sameRef_any (gFr bs) sy (gN bs) (gE bs) (gI bs) (gFr bs) sz (gN bs) (gE bs) (gI bs) (Go.Sort.grow (redrawn wj d) os) (HPV.out.below (below_regrown wj d os) (Nat.le_refl _)) (HZV.out.below (below_regrown wj d os) (Nat.le_refl _))
        rwa [sameB_refl] at this)
      have HEE : Hid (∀ d os, Calls Try.prog 17 #[.agg (entL fr sve I).toArray, .agg (entL fr sve I).toArray] (Go.Sort.grow (redrawn wj d) os) fun e w' => e = .returned (.bool true) ∧ Below (Go.Sort.grow (redrawn wj d) os).heap.size (Go.Sort.grow (redrawn wj d) os) w') := Lib.hid (fun d os => by
        have := same_any fr sve n E I fr sve n E I (Go.Sort.grow (redrawn wj d) os) (HV.out.below (below_regrown wj d os) (Nat.le_refl _)) (HV.out.below (below_regrown wj d os) (Nat.le_refl _))
        rwa [sameB_refl] at this)
      have HSm := Lib.hid (fun d os => same_any fr sve n E I fr2 sv2 n2 E2 I2 (Go.Sort.grow (redrawn wj d) os) (HV.out.below (below_regrown wj d os) (Nat.le_refl _)) (HYV.out.below (below_regrown wj d os) (Nat.le_refl _)))
      have HSr := Lib.hid (fun d os => sameRef_any fr sve n E I fr2 sv2 n2 E2 I2 (Go.Sort.grow (redrawn wj d) os) (HV.out.below (below_regrown wj d os) (Nat.le_refl _)) (HYV.out.below (below_regrown wj d os) (Nat.le_refl _)))
      generalize sameB fr n E I fr2 n2 E2 I2 = sb at *
      refine wp_region_quiet_below (by kernel_rfl) (by kernel_rfl) ?_
      go_big_quiet_step (exact Calls.regrown_of (told_law _))
      iterate 6 (go_big_quiet_step (fail))
      refine quiet_load_ent (by rfl) _ rfl tp 0 rfl _ (by rintro w' ⟨p, rfl⟩; exact (HAP.out p.d p.os).range) (size_ent _ _ _) ?_
      try simp only [Act.put, List.setIfInBounds_toArray, List.set_cons_zero, List.set_cons_succ]
      refine quiet_load_ent (by rfl) _ rfl tz 0 rfl _ (by rintro w' ⟨p, rfl⟩; exact (HAZ.out p.d p.os).range) (size_ent _ _ _) ?_
      try simp only [Act.put, List.setIfInBounds_toArray, List.set_cons_zero, List.set_cons_succ]
      go_big_quiet_step (exact Calls.regrown_of (HYZ.out _ _))
      iterate 2 (go_big_quiet_step (fail))
      refine quiet_load_ent (by rfl) _ rfl w.heap.size 0 rfl _ (by rintro w' ⟨p, rfl⟩; exact (HA3.out p.d p.os).range) (size_ent _ _ _) ?_
      try simp only [Act.put, List.setIfInBounds_toArray, List.set_cons_zero, List.set_cons_succ]
      refine quiet_load_ent (by rfl) _ rfl (w.heap.size + 1) 0 rfl _ (by rintro w' ⟨p, rfl⟩; exact (HA4.out p.d p.os).range) (size_ent _ _ _) ?_
      try simp only [Act.put, List.setIfInBounds_toArray, List.set_cons_zero, List.set_cons_succ]
      go_big_quiet_step (exact Calls.regrown_of (HSm.out _ _))
      refine quiet_load_ent (by rfl) _ rfl w.heap.size 0 rfl _ (by rintro w' ⟨p, rfl⟩; exact (HA3.out p.d p.os).range) (size_ent _ _ _) ?_
      try simp only [Act.put, List.setIfInBounds_toArray, List.set_cons_zero, List.set_cons_succ]
      refine quiet_load_ent (by rfl) _ rfl (w.heap.size + 1) 0 rfl _ (by rintro w' ⟨p, rfl⟩; exact (HA4.out p.d p.os).range) (size_ent _ _ _) ?_
      try simp only [Act.put, List.setIfInBounds_toArray, List.set_cons_zero, List.set_cons_succ]
      go_big_quiet_step (exact Calls.regrown_of (HSr.out _ _))
      iterate 3 (go_big_quiet_step (fail))
      refine quiet_load_ent (by rfl) _ rfl w.heap.size 0 rfl _ (by rintro w' ⟨p, rfl⟩; exact (HA3.out p.d p.os).range) (size_ent _ _ _) ?_
      try simp only [Act.put, List.setIfInBounds_toArray, List.set_cons_zero, List.set_cons_succ]
      refine quiet_load_ent (by rfl) _ rfl w.heap.size 0 rfl _ (by rintro w' ⟨p, rfl⟩; exact (HA3.out p.d p.os).range) (size_ent _ _ _) ?_
      try simp only [Act.put, List.setIfInBounds_toArray, List.set_cons_zero, List.set_cons_succ]
      go_big_quiet_step (exact Calls.regrown_of (HEE.out _ _))
      repeat (go_big_quiet_step (fail))
      refine wpQuiet_nil ?_
      intro wk hw'
      obtain ⟨⟨nq, osq⟩, hw3⟩ := hw'
      have bq := below_regrown wj nq osq
      rw [← hw3] at bq
      clear hw3
      replace HB := Lib.hid (HB.out.trans (bq.mono HB.out.size))
      clear bq
      go_wp2_with fail
      go_ret
      exact ⟨rfl, HB.out⟩
    · skip
      have HPV : Hid (EvsV wg (.slice none 0 0) 0 (fun _ _ => 0)) := Lib.hid ⟨none, 0, rfl, Nat.le_refl _, Nat.zero_le _, fun h => absurd h (by omega)⟩
      have hst := store_new 0 (.slice none 0 0) (fun _ => 0) (one_nil _ _) wg _ rfl
      have hz := zeroEnt
      have HP := Lib.hid (entAt_new 0 (.slice none 0 0) (fun _ => 0) 28 wg)
      have bA := (Below.refl wg.heap.size wg).alloc (Nat.le_refl _) (Obj.cells (entL 0 (.slice none 0 0) (fun _ => 0)).toArray 28)
      replace HE := Lib.hid (HE.out.block (bA.block _ HE.out.lt))
      replace HB := Lib.hid (HB.out.trans (bA.mono HB.out.size))
      replace HV := Lib.hid (HV.out.below bA (Nat.le_refl _))
      replace HY := Lib.hid (HY.out.block (bA.block _ HY.out.lt))
      replace HYV := Lib.hid (HYV.out.below bA (Nat.le_refl _))
      replace HQ := Lib.hid (HQ.out.below bA (Nat.le_refl _))
      replace HPV := Lib.hid (HPV.out.below bA (Nat.le_refl _))
      clear bA
      have hcv := conv_any HQ.out
      go_wp2_with fail
      clear hst hcv
      generalize wg.alloc (Obj.cells (entL 0 (.slice none 0 0) (fun _ => 0)).toArray 28) = wh at *
      generalize wg.heap.size = tp at *
      refine (getRef_any bs HBY.out (by omega) wh).mono ?_
      rintro e wi ⟨hp2, hb⟩
      replace HE := Lib.hid (HE.out.block (hb.block _ HE.out.lt))
      replace HB := Lib.hid (HB.out.trans (hb.mono HB.out.size))
      replace HV := Lib.hid (HV.out.below hb (Nat.le_refl _))
      replace HY := Lib.hid (HY.out.block (hb.block _ HY.out.lt))
      replace HYV := Lib.hid (HYV.out.below hb (Nat.le_refl _))
      replace HQ := Lib.hid (HQ.out.below hb (Nat.le_refl _))
      replace HPV := Lib.hid (HPV.out.below hb (Nat.le_refl _))
      replace HP := Lib.hid (HP.out.block (hb.block _ HP.out.lt))
      clear hb
      rcases hp2 with ⟨hok, -⟩ | ⟨-, rfl⟩
      · exact absurd hok hno
      have HZV : Hid (EvsV wi (.slice none 0 0) 0 (fun _ _ => 0)) := Lib.hid ⟨none, 0, rfl, Nat.le_refl _, Nat.zero_le _, fun h => absurd h (by omega)⟩
      have hst := store_new 0 (.slice none 0 0) (fun _ => 0) (one_nil _ _) wi _ rfl
      have HZ := Lib.hid (entAt_new 0 (.slice none 0 0) (fun _ => 0) 28 wi)
      have bA := (Below.refl wi.heap.size wi).alloc (Nat.le_refl _) (Obj.cells (entL 0 (.slice none 0 0) (fun _ => 0)).toArray 28)
      replace HE := Lib.hid (HE.out.block (bA.block _ HE.out.lt))
      replace HB := Lib.hid (HB.out.trans (bA.mono HB.out.size))
      replace HV := Lib.hid (HV.out.below bA (Nat.le_refl _))
      replace HY := Lib.hid (HY.out.block (bA.block _ HY.out.lt))
      replace HYV := Lib.hid (HYV.out.below bA (Nat.le_refl _))
      replace HPV := Lib.hid (HPV.out.below bA (Nat.le_refl _))
      replace HP := Lib.hid (HP.out.block (bA.block _ HP.out.lt))
      replace HZV := Lib.hid (HZV.out.below bA (Nat.le_refl _))
      clear bA
      clear HQ
      go_wp2_with fail
      clear hst
      generalize wi.alloc (Obj.cells (entL 0 (.slice none 0 0) (fun _ => 0)).toArray 28) = wj at *
      generalize wi.heap.size = tz at *
      have HA3 := Lib.hid (fun d os => HE.out.block ((below_regrown wj d os).block _ HE.out.lt))
      have HA4 := Lib.hid (fun d os => HY.out.block ((below_regrown wj d os).block _ HY.out.lt))
      have HAP := Lib.hid (fun d os => HP.out.block ((below_regrown wj d os).block _ HP.out.lt))
      have HAZ := Lib.hid (fun d os => HZ.out.block ((below_regrown wj d os).block _ HZ.out.lt))
      have HYZ : Hid (∀ d os, Calls Try.prog 16 #[.agg (entL 0 (.slice none 0 0) (fun _ => 0)).toArray, .agg (entL 0 (.slice none 0 0) (fun _ => 0)).toArray] (Go.Sort.grow (redrawn wj d) os) fun e w' => e = .returned (.bool true) ∧ Below (Go.Sort.grow (redrawn wj d) os).heap.size (Go.Sort.grow (redrawn wj d) os) w') := Lib.hid (fun d os => by
        have := sameRef_any 0 (.slice none 0 0) 0 (fun _ _ => 0) (fun _ => 0) 0 (.slice none 0 0) 0 (fun _ _ => 0) (fun _ => 0) (Go.Sort.grow (redrawn wj d) os) (HPV.out.below (below_regrown wj d os) (Nat.le_refl _)) (HZV.out.below (below_regrown wj d os) (Nat.le_refl _))
        rwa [sameB_refl] at this)
      have HEE : Hid (∀ d os, Calls Try.prog 17 #[.agg (entL fr sve I).toArray, .agg (entL fr sve I).toArray] (Go.Sort.grow (redrawn wj d) os) fun e w' => e = .returned (.bool true) ∧ Below (Go.Sort.grow (redrawn wj d) os).heap.size (Go.Sort.grow (redrawn wj d) os) w') := Lib.hid (fun d os => by
        have := same_any fr sve n E I fr sve n E I (Go.Sort.grow (redrawn wj d) os) (HV.out.below (below_regrown wj d os) (Nat.le_refl _)) (HV.out.below (below_regrown wj d os) (Nat.le_refl _))
        rwa [sameB_refl] at this)
      have HSm := Lib.hid (fun d os => same_any fr sve n E I fr2 sv2 n2 E2 I2 (Go.Sort.grow (redrawn wj d) os) (HV.out.below (below_regrown wj d os) (Nat.le_refl _)) (HYV.out.below (below_regrown wj d os) (Nat.le_refl _)))
      have HSr := Lib.hid (fun d os => sameRef_any fr sve n E I fr2 sv2 n2 E2 I2 (Go.Sort.grow (redrawn wj d) os) (HV.out.below (below_regrown wj d os) (Nat.le_refl _)) (HYV.out.below (below_regrown wj d os) (Nat.le_refl _)))
      generalize sameB fr n E I fr2 n2 E2 I2 = sb at *
      refine wp_region_quiet_below (by kernel_rfl) (by kernel_rfl) ?_
      go_big_quiet_step (exact Calls.regrown_of (told_law _))
      iterate 6 (go_big_quiet_step (fail))
      refine quiet_load_ent (by rfl) _ rfl tp 0 rfl _ (by rintro w' ⟨p, rfl⟩; exact (HAP.out p.d p.os).range) (size_ent _ _ _) ?_
      try simp only [Act.put, List.setIfInBounds_toArray, List.set_cons_zero, List.set_cons_succ]
      refine quiet_load_ent (by rfl) _ rfl tz 0 rfl _ (by rintro w' ⟨p, rfl⟩; exact (HAZ.out p.d p.os).range) (size_ent _ _ _) ?_
      try simp only [Act.put, List.setIfInBounds_toArray, List.set_cons_zero, List.set_cons_succ]
      go_big_quiet_step (exact Calls.regrown_of (HYZ.out _ _))
      iterate 2 (go_big_quiet_step (fail))
      refine quiet_load_ent (by rfl) _ rfl w.heap.size 0 rfl _ (by rintro w' ⟨p, rfl⟩; exact (HA3.out p.d p.os).range) (size_ent _ _ _) ?_
      try simp only [Act.put, List.setIfInBounds_toArray, List.set_cons_zero, List.set_cons_succ]
      refine quiet_load_ent (by rfl) _ rfl (w.heap.size + 1) 0 rfl _ (by rintro w' ⟨p, rfl⟩; exact (HA4.out p.d p.os).range) (size_ent _ _ _) ?_
      try simp only [Act.put, List.setIfInBounds_toArray, List.set_cons_zero, List.set_cons_succ]
      go_big_quiet_step (exact Calls.regrown_of (HSm.out _ _))
      refine quiet_load_ent (by rfl) _ rfl w.heap.size 0 rfl _ (by rintro w' ⟨p, rfl⟩; exact (HA3.out p.d p.os).range) (size_ent _ _ _) ?_
      try simp only [Act.put, List.setIfInBounds_toArray, List.set_cons_zero, List.set_cons_succ]
      refine quiet_load_ent (by rfl) _ rfl (w.heap.size + 1) 0 rfl _ (by rintro w' ⟨p, rfl⟩; exact (HA4.out p.d p.os).range) (size_ent _ _ _) ?_
      try simp only [Act.put, List.setIfInBounds_toArray, List.set_cons_zero, List.set_cons_succ]
      go_big_quiet_step (exact Calls.regrown_of (HSr.out _ _))
      iterate 3 (go_big_quiet_step (fail))
      refine quiet_load_ent (by rfl) _ rfl w.heap.size 0 rfl _ (by rintro w' ⟨p, rfl⟩; exact (HA3.out p.d p.os).range) (size_ent _ _ _) ?_
      try simp only [Act.put, List.setIfInBounds_toArray, List.set_cons_zero, List.set_cons_succ]
      refine quiet_load_ent (by rfl) _ rfl w.heap.size 0 rfl _ (by rintro w' ⟨p, rfl⟩; exact (HA3.out p.d p.os).range) (size_ent _ _ _) ?_
      try simp only [Act.put, List.setIfInBounds_toArray, List.set_cons_zero, List.set_cons_succ]
      go_big_quiet_step (exact Calls.regrown_of (HEE.out _ _))
      repeat (go_big_quiet_step (fail))
      refine wpQuiet_nil ?_
      intro wk hw'
      obtain ⟨⟨nq, osq⟩, hw3⟩ := hw'
      have bq := below_regrown wj nq osq
      rw [← hw3] at bq
      clear hw3
      replace HB := Lib.hid (HB.out.trans (bq.mono HB.out.size))
      clear bq
      go_wp2_with fail
      go_ret
      exact ⟨rfl, HB.out⟩
end Go.Proofs.Ytmhgkkfeohaojaa
