/-
  Entry: the reference's GetEntry.
-/
import Derived.Test.YtembppihfcclcaaG20x
namespace Go.Proofs.Ytembppihfcclcaa
set_option linter.unusedVariables false
open Go.ChangeShapes Go.WideShapes Go.ChangeAt Go.RowKit

set_option linter.unusedSimpArgs false
theorem ok_six {bs : List Int} (h : OkG bs) : 6 + 5 * gN bs ≤ bs.length := by have := h.1; unfold gTot at this; omega
theorem trk_bad {bs l : List Int} {p : Nat} (q : Nat) (h : Trk bs p l true) : Trk bs q l true := ⟨h.1, h.2.1, fun h => (by cases h), h.2.2.2⟩
theorem wpList_build_z {W : World} {ops : Array Oper} {rest : List Oper} {o : Oper} {a : Act} {Q : Exit → Act → World → Prop} (hg : Region.wanted o (yielded ops a.tmps) = true) (hop : o.op = Op.build 37 #[])
    (hK : wpList Try.prog ops Q rest (a.put o.dst (.agg (entL 0 (.slice none 0 0) (fun _ => 0)).toArray)) W) : wpList Try.prog ops Q (o :: rest) a W := by
  refine wpList_run hg ?_ hK
  have e : (Array.map (fun x => (x.fst, a.eval x.snd)) (#[] : Array (Nat × Operand)) : Array (Nat × Value)) = #[] := by simp
  simp only [execOp, hop]
  rw [e, Sem.run_bind, build_z]
  rfl
theorem entL_congr {fr : Int} {sv : Value} {I I' : Nat → Int} (h : ∀ j, j < 24 → I j = I' j) : entL fr sv I = entL fr sv I' := by
  unfold entL
  refine List.map_congr_left fun k hk => ?_
  have hk := List.mem_range.1 hk
  unfold entF inpV
  split
  · rfl
  · split
    · rfl
    · rw [h (k - 2) (by omega)]
theorem one_nilE (fr : Int) (I : Nat → Int) : (entL fr (.slice none 0 0) I).toArray.all (·.oneCell') = true := entL_one fr none 0 0 I
theorem ownE_congr {w : World} {B : Nat} {sv : Value} {n n' : Nat} {E E' : Nat → Nat → Int} (h : OwnE w B sv n E) (hn : n = n') (he : ∀ i, i < n → E i 0 = E' i 0 ∧ E i 1 = E' i 1 ∧ E i 2 = E' i 2 ∧ E i 3 = E' i 3) : OwnE w B sv n' E' := by
  subst hn
  unfold OwnE at h ⊢
  rwa [evL_congr n (fun i hi j hj => by
    obtain ⟨h0, h1, h2, h3⟩ := he i hi
    rcases (by omega : j = 0 ∨ j = 1 ∨ j = 2 ∨ j = 3) with rfl | rfl | rfl | rfl <;> assumption)] at h
theorem evs_congr {w : World} {sv : Value} {n n' : Nat} {E E' : Nat → Nat → Int} (h : EvsV w sv n E) (hn : n = n') (he : ∀ i, i < n → E i 0 = E' i 0 ∧ E i 1 = E' i 1 ∧ E i 2 = E' i 2 ∧ E i 3 = E' i 3) : EvsV w sv n' E' := by
  subst hn
  obtain ⟨a, cap, rfl, h1, h2, h3⟩ := h
  refine ⟨a, cap, rfl, h1, h2, fun h0 => ?_⟩
  obtain ⟨b, o, e, hb, hc⟩ := h3 h0
  exact ⟨b, o, e, hb, ⟨fun i hi => (he i hi).1 ▸ hc.k i hi, fun i hi => (he i hi).2.1 ▸ hc.s i hi, fun i hi => (he i hi).2.2.1 ▸ hc.g i hi, fun i hi => (he i hi).2.2.2 ▸ hc.p i hi⟩⟩
theorem entB_of {bs : List Int} (hby : ByteL bs) {vf : Int} {k : Nat} {E' : Nat → Nat → Int} {I' : Nat → Int} (hvf : vf = gFr bs) (hEE : ∀ i, i < k → E' i 0 = gE bs i 0 ∧ E' i 1 = gE bs i 1 ∧ E' i 2 = gE bs i 2 ∧ E' i 3 = gE bs i 3) (hI : ∀ j, j < 24 → I' j = gI bs j) : EntB vf k E' I' := by
  constructor
  · have h0 := hby 0
    have h1 := hby 1
    have h2 := hby 2
    have h3 := hby 3
    rw [hvf]; unfold gFr; omega
  · intro i hi j hj
    obtain ⟨e0, e1, e2, e3⟩ := hEE i hi
    have c0 := hby (5 + 5 * i)
    have c1 := hby (5 + 5 * i + 1)
    have c2 := hby (5 + 5 * i + 2)
    have c3 := hby (5 + 5 * i + 3)
    have c4 := hby (5 + 5 * i + 4)
    rcases (by omega : j = 0 ∨ j = 1 ∨ j = 2 ∨ j = 3) with rfl | rfl | rfl | rfl
    · rw [e0]; show _ ≤ zz bs (5 + 5 * i) ∧ zz bs (5 + 5 * i) ≤ _; omega
    · rw [e1]; show _ ≤ zz bs (5 + 5 * i + 1) ∧ zz bs (5 + 5 * i + 1) ≤ _; omega
    · rw [e2]; show _ ≤ zz bs (5 + 5 * i + 2) + zz bs (5 + 5 * i + 3) * 256 ∧ zz bs (5 + 5 * i + 2) + zz bs (5 + 5 * i + 3) * 256 ≤ _; omega
    · rw [e3]; show _ ≤ zz bs (5 + 5 * i + 4) ∧ zz bs (5 + 5 * i + 4) ≤ _; omega
  · intro j hj h3
    rw [hI j hj]
    unfold gI
    split
    · have := hby (6 + 5 * gN bs + 3 * gcnt (gM bs) (j / 3) + j % 3)
      unfold sgn
      split <;> omega
    · omega
  · intro j hj h3
    rw [hI j hj]
    unfold gI
    split
    · have := hby (6 + 5 * gN bs + 3 * gcnt (gM bs) (j / 3) + j % 3)
      omega
    · omega
set_option maxRecDepth 100000 in
set_option maxHeartbeats 4000000 in
theorem getRef_any (bs : List Int) (hby : ByteL bs) (hlen : bs.length ≤ 1000000) (w : World) :
    Calls Try.prog 61 #[.string (strOfNums bs)] w fun e w' => GetPost w.heap.size bs e w' ∧ Below w.heap.size w w' := by
  have hz := zeroEnt
  have HT2 : Hid (((w.alloc (Obj.cells (entL 0 (.slice none 0 0) (fun _ => 0)).toArray 37)).alloc (Obj.cells #[.string (strOfNums bs), .bool false] 85)).there w.heap.size 0 26) := Lib.hid (there_block (there_new w) (Below.heap_alloc _ _ _ (by simp)))
  have HRG : Hid (RG ((w.alloc (Obj.cells (entL 0 (.slice none 0 0) (fun _ => 0)).toArray 37)).alloc (Obj.cells #[.string (strOfNums bs), .bool false] 85)) (w.heap.size + 1) bs false) := Lib.hid (RG.new _ bs _ (by simp))
  have HB := Lib.hid (((Below.refl w.heap.size w).alloc (Nat.le_refl _) (Obj.cells (entL 0 (.slice none 0 0) (fun _ => 0)).toArray 37)).alloc (by simp) (Obj.cells #[.string (strOfNums bs), .bool false] 85))
  have hs2 : w.heap.size + 2 ≤ ((w.alloc (Obj.cells (entL 0 (.slice none 0 0) (fun _ => 0)).toArray 37)).alloc (Obj.cells #[.string (strOfNums bs), .bool false] 85)).heap.size := by simp
  have HTrk : Hid (Trk bs 0 bs false) := Lib.hid ⟨hby, hlen, fun _ => ⟨rfl, Nat.zero_le _⟩, fun h => by cases h⟩
  have HBY := Lib.hid hby
  clear hby
  go_enter Try.func61, Try.ntmps61
  go_wp2_with fail
  generalize (w.alloc (Obj.cells (entL 0 (.slice none 0 0) (fun _ => 0)).toArray 37)).alloc (Obj.cells #[.string (strOfNums bs), .bool false] 85) = w2 at *
  refine (rInt4_trk (w.heap.size + 1) bs bs false w2 HRG.out HTrk.out (fun h hok => by have := ok_six hok; omega)).mono ?_
  rintro e w3 ⟨vf, l1, b1, rfl, hr, ht1, hg1, -, hd⟩
  have hs3 := Nat.le_trans hs2 hd.size
  have HG := Lib.hid (gt_start w w3 vf (there_block HT2.out (hd.block _ (by omega) (by omega))) hs3 (HB.out.trans (hd.below (by omega) (by omega))))
  have hst := store_new vf (.slice none 0 0) (fun _ => 0) (one_nilE _ _) w3 _ rfl
  replace HRG := Lib.hid (hr.block (Below.heap_alloc w3 (Obj.cells (entL vf (.slice none 0 0) (fun _ => 0)).toArray 37) _ hr.lt))
  have HTR1 := Lib.hid ht1
  have HG1 := Lib.hid hg1
  clear HT2 HB hr hd hs2 HTrk ht1 hg1
  go_wp2_with (refine wpList_build_fr vf (by rfl) _ rfl rfl ?_)
  clear hst
  generalize w3.alloc (Obj.cells (entL vf (.slice none 0 0) (fun _ => 0)).toArray 37) = w4 at *
  generalize w3.heap.size = b5 at *
  refine (rInt1_trk (w.heap.size + 1) bs l1 b1 4 w4 HRG.out HTR1.out (fun h hok => by have := ok_six hok; omega)).mono ?_
  rintro e w5 ⟨vn, l2, b2, rfl, hr, ht2, hg2, hvn, hd⟩
  replace HG := Lib.hid (HG.out.rd hd)
  replace HRG := Lib.hid hr
  have HTR2 := Lib.hid ht2
  have HG2 : Hid (b2 = false → vf = gFr bs ∧ vn = (gN bs : Int)) := Lib.hid (fun h => by
    obtain ⟨h1, h2⟩ := hg2 h
    refine ⟨(HG1.out h1).2, ?_⟩
    have := HBY.out 4
    rw [h2]; unfold gN; omega)
  clear hr hd ht2 hg2 HTR1 HG1
  go_wp2_with fail
  go_loopw [7] (fun i wr => ∃ (k : Nat) (sv : Value) (E' : Nat → Nat → Int) (l : List Int) (bad : Bool), k ≤ 256 ∧ i = .int .i64 k ∧ GT w b5 vf sv k E' (fun _ => 0) wr ∧ RG wr (w.heap.size + 1) l bad ∧ Trk bs (5 + 5 * k) l bad ∧ (bad = false → b2 = false ∧ k ≤ gN bs ∧ ∀ i, i < k → E' i 0 = gE bs i 0 ∧ E' i 1 = gE bs i 1 ∧ E' i 2 = gE bs i 2 ∧ E' i 3 = gE bs i 3)) (fun i _ => vn.toNat - (intOf i).toNat)
  case atStart => exact ⟨0, _, _, l2, b2, by omega, rfl, HG.out, HRG.out, HTR2.out, fun h => ⟨h, Nat.zero_le _, fun i hi => by omega⟩⟩
  case round =>
    obtain ⟨k, sv, E', l, bad, hk, rfl, hG, hR, hT, hGd⟩ := hrel
    clear HG HRG HTR2
    have HG := Lib.hid hG
    have HTR := Lib.hid hT
    have HGd := Lib.hid hGd
    have hg5 := hG.g5
    clear hG hT hGd
    by_cases hlt : (k : Int) < vn
    · cases bad with
      | false =>
        have c1 := hR.c1
        have HRG := Lib.hid hR
        clear hR
        obtain ⟨hb2, hkN, hAll⟩ := HGd.out rfl
        have HAll := Lib.hid hAll
        have hg256 := gN_lt HBY.out
        clear hAll
        have hkn : k < gN bs := by have := (HG2.out hb2).2; omega
        have HNo : Hid (bs.length < 5 + 5 * k + 5 → ¬ OkG bs) := Lib.hid (fun h hok => by have := ok_six hok; omega)
        go_wp2_with fail
        refine (rInt1_trk (w.heap.size + 1) bs l false (5 + 5 * k) wr HRG.out HTR.out (fun h => HNo.out (by omega))).mono ?_
        rintro e w6 ⟨x0, l3, b3, rfl, hr, ht, hg, -, hd⟩
        have hd0 := hd
        have hRX := hr.lt
        have HX := Lib.hid (XC.new w6 x0 0 0 0 43)
        have HD : Hid (Rd (w.heap.size + 1) wr (w6.alloc (Obj.cells #[.int .i64 x0, .int .i64 0, .int .i64 0, .int .i64 0] 43))) := Lib.hid (hd.trans (Below.rd ((Below.refl w6.heap.size w6).alloc (Nat.le_refl _) _) (Nat.le_refl _)))
        have hXw : wr.heap.size ≤ w6.heap.size := hd.size
        replace HRG := Lib.hid (hr.block (Below.heap_alloc w6 (Obj.cells #[.int .i64 x0, .int .i64 0, .int .i64 0, .int .i64 0] 43) _ hr.lt))
        have HT3 := Lib.hid ht
        have HH3 : Hid (b3 = false → x0 = zz bs (5 + 5 * k)) := Lib.hid (fun h => (hg h).2)
        clear hr ht hg hd hd0 c1 HTR HGd
        go_wp2_with fail
        generalize w6.alloc (Obj.cells #[.int .i64 x0, .int .i64 0, .int .i64 0, .int .i64 0] 43) = w7 at *
        generalize w6.heap.size = X at *
        refine (rInt1_trk (w.heap.size + 1) bs l3 b3 (5 + 5 * k + 1) w7 HRG.out HT3.out (fun h => HNo.out (by omega))).mono ?_
        rintro e w8 ⟨x1, l4, b4, rfl, hr, ht, hg, -, hd⟩
        replace HX := Lib.hid (HX.out.block (hd.block _ HX.out.lt (by omega)))
        replace HD := Lib.hid ((HD.out.trans hd).setNew (b := X) (j := 1) (u := .int .i64 x1) hXw)
        have cX := HX.out.c1
        have fX := HX.out.f 1 (by omega)
        replace HRG := Lib.hid (hr.block (setCell_block (w := w8) (b := X) (j := 1) (u := .int .i64 x1) (by omega)))
        replace HX := Lib.hid (HX.out.set1 x1)
        have HT4 := Lib.hid ht
        have HH4 := Lib.hid hg
        clear hr ht hg hd HT3
        go_wp2_with fail
        clear cX fX
        generalize w8.setCell ⟨X, 1, none⟩ (.int .i64 x1) = w9 at *
        refine (rInt2_trk (w.heap.size + 1) bs l4 b4 (5 + 5 * k + 1 + 1) w9 HRG.out HT4.out (fun h => HNo.out (by omega))).mono ?_
        rintro e w8 ⟨x2, l5, b5q, rfl, hr, ht, hg, -, hd⟩
        replace HX := Lib.hid (HX.out.block (hd.block _ HX.out.lt (by omega)))
        replace HD := Lib.hid ((HD.out.trans hd).setNew (b := X) (j := 2) (u := .int .i64 x2) hXw)
        have cX := HX.out.c2
        have fX := HX.out.f 2 (by omega)
        replace HRG := Lib.hid (hr.block (setCell_block (w := w8) (b := X) (j := 2) (u := .int .i64 x2) (by omega)))
        replace HX := Lib.hid (HX.out.set2 x2)
        have HT5 := Lib.hid ht
        have HH5 := Lib.hid hg
        clear hr ht hg hd HT4
        go_wp2_with fail
        clear cX fX
        generalize w8.setCell ⟨X, 2, none⟩ (.int .i64 x2) = w10 at *
        refine (rInt1_trk (w.heap.size + 1) bs l5 b5q (5 + 5 * k + 1 + 1 + 2) w10 HRG.out HT5.out (fun h => HNo.out (by omega))).mono ?_
        rintro e w8 ⟨x3, l6, b6, rfl, hr, ht, hg, -, hd⟩
        replace HX := Lib.hid (HX.out.block (hd.block _ HX.out.lt (by omega)))
        replace HD := Lib.hid ((HD.out.trans hd).setNew (b := X) (j := 3) (u := .int .i64 x3) hXw)
        have cX := HX.out.c3
        have fX := HX.out.f 3 (by omega)
        replace HRG := Lib.hid (hr.block (setCell_block (w := w8) (b := X) (j := 3) (u := .int .i64 x3) (by omega)))
        replace HX := Lib.hid (HX.out.set3 x3)
        have HT6 := Lib.hid ht
        have HH6 := Lib.hid hg
        clear hr ht hg hd HT5
        have hsz := HD.out.size
        replace HG := Lib.hid (HG.out.rd HD.out)
        have e1 := HG.out.ent.z1
        obtain ⟨k0, k1, k2, k3, -⟩ := HX.out
        have hb5 := HG.out.ent.lt
        go_wp2_with (at_builtin; refine step_app_evL rfl (.tmp 44) (.tmp 46) rfl (b5 + 1) sv k E' _ rfl HG.out.own (by omega) x0 x1 x2 x3 w8.heap.size (by simp [World.setCell]) rfl (by omega) ?_)
        intro v' w12 hO hb g cap hv
        subst hv
        have hG2 := HG.out.app hb hO
        have cV : w12.cell? ⟨b5, 1, none⟩ = some sv := (World.cell?_of_block (hb.block b5 (by omega))).trans HG.out.ent.z1
        have fV : w12.frozen? ⟨b5, 1, none⟩ = false := (World.frozen?_of_block (hb.block b5 (by omega))).trans (by have := (HG.out.th5 1 (by omega)).2; rwa [Nat.zero_add] at this)
        have hR2 := (HRG.out.block (hb.block _ (by omega))).block (setCell_block (w := w12) (b := b5) (j := 1) (u := .slice (some ⟨g, 0, none⟩) (k + 1) cap) (by omega))
        have HFin : Hid (b6 = false → b2 = false ∧ k + 1 ≤ gN bs ∧ ∀ i, i < k + 1 → updE E' k x0 x1 x2 x3 i 0 = gE bs i 0 ∧ updE E' k x0 x1 x2 x3 i 1 = gE bs i 1 ∧ updE E' k x0 x1 x2 x3 i 2 = gE bs i 2 ∧ updE E' k x0 x1 x2 x3 i 3 = gE bs i 3) := Lib.hid (fun h => by
          obtain ⟨h5, e3⟩ := HH6.out h
          obtain ⟨h4, e2⟩ := HH5.out h5
          obtain ⟨h3, e1⟩ := HH4.out h4
          have e0 := HH3.out h3
          refine ⟨hb2, by omega, fun i hi => ?_⟩
          by_cases e : i = k
          · subst e
            unfold updE
            simp only [if_true]
            rw [e0, e1, e2, e3]
            exact ⟨rfl, rfl, rfl, rfl⟩
          · unfold updE
            simp only [if_neg e]
            exact HAll.out i (by omega))
        have HTF : Hid (Trk bs (5 + 5 * (k + 1)) l6 b6) := Lib.hid (by have := HT6.out; rwa [show 5 + 5 * k + 1 + 1 + 2 + 1 = 5 + 5 * (k + 1) by omega] at this)
        replace HG := Lib.hid hG2
        replace HRG := Lib.hid hR2
        clear hG2 hR2 hO hb HH3 HH4 HH5 HH6 HT6 HAll HX HD HNo e1 k0 k1 k2 k3
        go_wp2_with fail
        refine ⟨⟨k + 1, _, _, l6, b6, by omega, rfl, HG.out, HRG.out, HTF.out, HFin.out⟩, ?_⟩
        show vn.toNat - (k + 1) < vn.toNat - k
        omega
      | true =>
        have HEx : Hid (true = false → vf = gFr bs ∧ k = gN bs ∧ ∀ i, i < k → E' i 0 = gE bs i 0 ∧ E' i 1 = gE bs i 1 ∧ E' i 2 = gE bs i 2 ∧ E' i 3 = gE bs i 3) := Lib.hid (fun h => by cases h)
        have c1 := hR.c1
        obtain ⟨bad, hbad⟩ : ∃ b, b = true := ⟨_, rfl⟩
        rw [← hbad] at HEx HTR HGd hR
        have HBd := Lib.hid hbad
        clear hbad
        have HRG := Lib.hid hR
        have HNo2 : Hid (bs.length < 5 + 5 * k + 1 → ¬ OkG bs) := Lib.hid (fun h hok => by
          cases bad with
          | true => exact HTR.out.2.2.2 rfl hok
          | false => have := ok_six hok; have := (HEx.out rfl).2.1; omega)
        clear hR HGd
        go_wp2_with fail
        refine (rInt1_trk (w.heap.size + 1) bs l bad (5 + 5 * k) wr HRG.out HTR.out HNo2.out).mono ?_
        rintro e w6 ⟨vm, l3, b3, rfl, hr, ht, hg, -, hd⟩
        replace HG := Lib.hid (HG.out.rd hd)
        replace HRG := Lib.hid hr
        have HM : Hid (b3 = false → (vf = gFr bs ∧ k = gN bs ∧ ∀ i, i < k → E' i 0 = gE bs i 0 ∧ E' i 1 = gE bs i 1 ∧ E' i 2 = gE bs i 2 ∧ E' i 3 = gE bs i 3) ∧ vm = (gM bs : Int)) := Lib.hid (fun h => by
          obtain ⟨h1, h2⟩ := hg h
          have h3 := HEx.out h1
          refine ⟨h3, ?_⟩
          have := HBY.out (5 + 5 * gN bs)
          rw [h2, h3.2.1]; unfold gM; omega)
        have HTs : Hid (Trk bs (6 + 5 * gN bs + 3 * gcnt (gM bs) 0) l3 b3) := Lib.hid (by
          cases b3 with
          | true => exact trk_bad _ ht
          | false =>
            have := (HM.out rfl).1.2.1
            rw [show 6 + 5 * gN bs + 3 * gcnt (gM bs) 0 = 5 + 5 * k + 1 by show 6 + 5 * gN bs + 3 * 0 = _; omega]
            exact ht)
        clear hr ht hg hd HTR HNo2 HEx
        go_wp2_with fail
        go_loopw [10] (fun i wr => ∃ (s : Nat) (I' : Nat → Int) (l : List Int) (bad : Bool), s ≤ 8 ∧ i = .int .i64 s ∧ GT w b5 vf sv k E' I' wr ∧ RG wr (w.heap.size + 1) l bad ∧ Trk bs (6 + 5 * gN bs + 3 * gcnt (gM bs) s) l bad ∧ (bad = false → b3 = false ∧ (∀ j, j < 24 → I' j = gIs bs s j) ∧ ∀ t, t < s → (gM bs).testBit t = true → inpNZ (gI bs) t = true)) (fun i _ => 8 - (intOf i).toNat)
        case atStart => exact ⟨0, _, l3, b3, by omega, rfl, HG.out, HRG.out, HTs.out, fun h => ⟨h, fun j _ => by unfold gIs; rw [if_neg (by omega)], fun t ht => by omega⟩⟩
        case round =>
          obtain ⟨s, I', l4, b4, hs, rfl, hG, hR, hT, hGd⟩ := hrel
          clear HG HRG HTs
          have HG := Lib.hid hG
          have HTR := Lib.hid hT
          have HGd := Lib.hid hGd
          have HRG := Lib.hid hR
          clear hG hT hGd hR
          by_cases hlt : s < 8
          · have HBT : Hid (b4 = false → (bits .and .i64 (vm / 2 ^ s) 1 == 1) = (gM bs).testBit s) := Lib.hid (fun h => by
              rw [(HM.out (HGd.out h).1).2]; exact bit_test _ _ (gM_lt HBY.out) hlt)
            rcases hbt : (bits .and .i64 (vm / 2 ^ s) 1 == 1) with _ | _
            · have HTn : Hid (Trk bs (6 + 5 * gN bs + 3 * gcnt (gM bs) (s + 1)) l4 b4) := Lib.hid (by
                cases b4 with
                | true => exact trk_bad _ HTR.out
                | false =>
                  have h1 := HBT.out rfl
                  rw [hbt] at h1
                  rw [gcnt_no _ _ h1.symm]
                  exact HTR.out)
              have HFn : Hid (b4 = false → b3 = false ∧ (∀ j, j < 24 → I' j = gIs bs (s + 1) j) ∧ ∀ t, t < s + 1 → (gM bs).testBit t = true → inpNZ (gI bs) t = true) := Lib.hid (fun h => by
                have h1 := HBT.out h
                rw [hbt] at h1
                obtain ⟨g1, g2, g3⟩ := HGd.out h
                rw [gIs_no _ _ h1.symm]
                refine ⟨g1, g2, fun t ht hb => ?_⟩
                by_cases e : t = s
                · subst e; rw [hb] at h1; cases h1
                · exact g3 t (by omega) hb)
              clear HTR HGd HBT
              go_wp2_with fail
              exact ⟨⟨s + 1, I', l4, b4, by omega, rfl, HG.out, HRG.out, HTn.out, HFn.out⟩, by show 8 - (s + 1) < 8 - s; omega⟩
            · have HB2 : Hid (b4 = false → (gM bs).testBit s = true) := Lib.hid (fun h => by rw [← HBT.out h, hbt])
              have HNo3 : Hid (bs.length < 6 + 5 * gN bs + 3 * gcnt (gM bs) s + 3 → ¬ OkG bs) := Lib.hid (fun h hok => by
                cases b4 with
                | true => exact HTR.out.2.2.2 rfl hok
                | false =>
                  have h1 := gcnt_yes _ _ (HB2.out rfl)
                  have h2 := gcnt_mono (gM bs) (s + 1) 8 (by omega)
                  have h3 := ok_tot hok
                  unfold gTot at h3
                  omega)
              clear HBT
              go_wp2_with fail
              refine (rInput_trk (w.heap.size + 1) bs l4 b4 _ HBY.out wr HRG.out HTR.out HNo3.out).mono ?_
              rintro e w7 ⟨x, y, z, l5, b5b, rfl, hr, ht, hg, hd⟩
              replace HG := Lib.hid (HG.out.rd hd)
              have hin := HG.out.ent.inps
              have c0 := hin.x s hlt
              have c1 := hin.y s hlt
              have c2 := hin.z s hlt
              have f0 : w7.frozen? ⟨b5, 2 + s * 3, none⟩ = false := by have := (HG.out.th5 (2 + s * 3) (by omega)).2; rwa [Nat.zero_add] at this
              have f1 : w7.frozen? ⟨b5, 2 + s * 3 + 1, none⟩ = false := by have := (HG.out.th5 (2 + s * 3 + 1) (by omega)).2; rwa [Nat.zero_add] at this
              have f2 : w7.frozen? ⟨b5, 2 + s * 3 + 2, none⟩ = false := by have := (HG.out.th5 (2 + s * 3 + 2) (by omega)).2; rwa [Nat.zero_add] at this
              have hne : b5 ≠ w.heap.size + 1 := by omega
              have hne' : w.heap.size + 1 ≠ b5 := by omega
              have r1 := hr.c1
              have q1 := hr.f1
              have hE := HG.out.set3 s hlt x y z
              have hR8 := ((hr.block (setCell_block (w := w7) (b := b5) (j := 2 + s * 3) (u := .int .i8 x) hne')).block (setCell_block (b := b5) (j := 2 + s * 3 + 1) (u := .int .i8 y) hne')).block (setCell_block (b := b5) (j := 2 + s * 3 + 2) (u := .int .u8 z) hne')
              have hin8 := hE.ent.inps
              have k0 := hin8.x s hlt
              have k1 := hin8.y s hlt
              have k2 := hin8.z s hlt
              have u0 : updI (updI (updI I' (s * 3) x) (s * 3 + 1) y) (s * 3 + 2) z (s * 3) = x := by unfold updI; rw [if_neg (by omega), if_neg (by omega), if_pos rfl]
              have u1 : updI (updI (updI I' (s * 3) x) (s * 3 + 1) y) (s * 3 + 2) z (s * 3 + 1) = y := by unfold updI; rw [if_neg (by omega), if_pos rfl]
              have u2 : updI (updI (updI I' (s * 3) x) (s * 3 + 1) y) (s * 3 + 2) z (s * 3 + 2) = z := by unfold updI; rw [if_pos rfl]
              rw [u0] at k0
              rw [u1] at k1
              rw [u2] at k2
              have HE := Lib.hid hE
              have HR8 := Lib.hid hR8
              have HTq : Hid (∀ nb : Bool, (nb = false → b5b = false) → (nb = true → ¬ OkG bs) → Trk bs (6 + 5 * gN bs + 3 * gcnt (gM bs) (s + 1)) l5 nb) := Lib.hid (fun nb h1 h2 => by
                cases nb with
                | true => exact ⟨ht.1, ht.2.1, fun h => (by cases h), fun _ => h2 rfl⟩
                | false =>
                  have hb := h1 rfl
                  subst hb
                  have hb4 := (hg rfl).1
                  rw [gcnt_yes _ _ (HB2.out hb4), show 6 + 5 * gN bs + 3 * (gcnt (gM bs) s + 1) = 6 + 5 * gN bs + 3 * gcnt (gM bs) s + 3 by omega]
                  exact ht)
              have HBad : Hid (b5b = true → ¬ OkG bs) := Lib.hid ht.2.2.2
              have HFq : Hid (b5b = false → inpNZ (gI bs) s = !(x == 0 && (y == 0 && z == 0)) ∧ (inpNZ (gI bs) s = true → (b3 = false ∧ (∀ j, j < 24 → updI (updI (updI I' (s * 3) x) (s * 3 + 1) y) (s * 3 + 2) z j = gIs bs (s + 1) j) ∧ ∀ t, t < s + 1 → (gM bs).testBit t = true → inpNZ (gI bs) t = true)) ∧ (OkG bs → inpNZ (gI bs) s = true)) := Lib.hid (fun h => by
                obtain ⟨hb4, ex, ey, ez⟩ := hg h
                have hb := HB2.out hb4
                obtain ⟨g1, g2, g3⟩ := HGd.out hb4
                have hI := gIs_yes bs s hb
                have i0 : gI bs (s * 3) = x := by unfold gI; rw [show s * 3 / 3 = s by omega, if_pos hb, if_neg (by omega), show s * 3 % 3 = 0 by omega, ex]; rfl
                have i1 : gI bs (s * 3 + 1) = y := by unfold gI; rw [show (s * 3 + 1) / 3 = s by omega, if_pos hb, if_neg (by omega), show (s * 3 + 1) % 3 = 1 by omega, ey]
                have i2 : gI bs (s * 3 + 2) = z := by unfold gI; rw [show (s * 3 + 2) / 3 = s by omega, if_pos hb, if_pos (by omega), show (s * 3 + 2) % 3 = 2 by omega, ez]
                refine ⟨by unfold inpNZ; rw [i0, i1, i2], fun hnz => ⟨g1, fun j hj => ?_, fun t ht hbt => ?_⟩, fun hok => ok_nz hok s hlt hb⟩
                · rw [hI, ex, ey, ez]
                  unfold updI
                  by_cases e2 : j = s * 3 + 2
                  · rw [if_pos e2, if_pos e2]
                  · rw [if_neg e2, if_neg e2]
                    by_cases e1 : j = s * 3 + 1
                    · rw [if_pos e1, if_pos e1]
                    · rw [if_neg e1, if_neg e1]
                      by_cases e0 : j = s * 3
                      · rw [if_pos e0, if_pos e0]
                      · rw [if_neg e0, if_neg e0]; exact g2 j hj
                · by_cases e : t = s
                  · subst e; exact hnz
                  · exact g3 t (by omega) hbt)
              clear hr ht hg hd HGd HTR HNo3 HB2 hE hR8 hin hin8 u0 u1 u2 HRG
              cases b5b with
              | true =>
                go_wp2_with fail
                exact ⟨⟨s + 1, _, l5, true, by omega, rfl, HE.out.setR _, HR8.out.setBad true, HTq.out true (fun h => (by cases h)) (fun _ => HBad.out (by first | rfl | trivial)), fun h => (by cases h)⟩, by show 8 - (s + 1) < 8 - s; omega⟩
              | false =>
                rcases hx : (x == 0) with _ | _
                · skip
                  have HNz : Hid (inpNZ (gI bs) s = true) := Lib.hid (by rw [(HFq.out rfl).1]; simp [hx])
                  go_wp2_with fail
                  exact ⟨⟨s + 1, _, l5, false, by omega, rfl, HE.out.setR _, HR8.out.setBad false, HTq.out false (fun _ => (by first | rfl | trivial)) (fun h => (by cases h)), fun _ => (HFq.out (by first | rfl | trivial)).2.1 HNz.out⟩, by show 8 - (s + 1) < 8 - s; omega⟩
                obtain rfl := eq_of_beq hx
                rcases hy : (y == 0) with _ | _
                · skip
                  have HNz : Hid (inpNZ (gI bs) s = true) := Lib.hid (by rw [(HFq.out rfl).1]; simp [hy])
                  go_wp2_with fail
                  exact ⟨⟨s + 1, _, l5, false, by omega, rfl, HE.out.setR _, HR8.out.setBad false, HTq.out false (fun _ => (by first | rfl | trivial)) (fun h => (by cases h)), fun _ => (HFq.out (by first | rfl | trivial)).2.1 HNz.out⟩, by show 8 - (s + 1) < 8 - s; omega⟩
                obtain rfl := eq_of_beq hy
                rcases hzz : (z == 0) with _ | _
                · skip
                  have HNz : Hid (inpNZ (gI bs) s = true) := Lib.hid (by rw [(HFq.out rfl).1]; simp [hzz])
                  go_wp2_with fail
                  exact ⟨⟨s + 1, _, l5, false, by omega, rfl, HE.out.setR _, HR8.out.setBad false, HTq.out false (fun _ => (by first | rfl | trivial)) (fun h => (by cases h)), fun _ => (HFq.out (by first | rfl | trivial)).2.1 HNz.out⟩, by show 8 - (s + 1) < 8 - s; omega⟩
                obtain rfl := eq_of_beq hzz
                have HNk : Hid (¬ OkG bs) := Lib.hid (fun hok => by
                  have h1 := (HFq.out rfl).1
                  rw [(HFq.out rfl).2.2 hok] at h1
                  cases h1)
                go_wp2_with fail
                exact ⟨⟨s + 1, _, l5, true, by omega, rfl, HE.out.setR _, HR8.out.setBad true, HTq.out true (fun h => (by cases h)) (fun _ => HNk.out), fun h => (by cases h)⟩, by show 8 - (s + 1) < 8 - s; omega⟩
          · obtain rfl : s = 8 := by omega
            have hnk0 : (!b4 && decide (l4 = [])) = false → ¬ OkG bs := fun h hok => by
              cases b4 with
              | true => exact HTR.out.2.2.2 rfl hok
              | false =>
                have h1 := (HTR.out.2.2.1 rfl).1
                have h2 : gTot bs = bs.length := ok_tot hok
                unfold gTot at h2
                rw [h2, List.drop_length] at h1
                rw [h1] at h
                cases h
            have HNk0 := Lib.hid hnk0
            clear hnk0
            go_wp2_with fail
            refine (rEnd_any (w.heap.size + 1) l4 b4 wr HRG.out).mono ?_
            rintro e w9 ⟨rfl, hw9⟩
            have hG9 : GT w b5 vf sv k E' I' w9 := by rw [hw9]; exact HG.out
            replace HG := Lib.hid hG9
            clear hw9 hG9 HRG
            rcases hE : (!b4 && decide (l4 = [])) with _ | _
            · have HNk : Hid (¬ OkG bs) := Lib.hid (HNk0.out hE)
              have hst := store_ent_there 0 (.slice none 0 0) (fun _ => 0) (one_nilE _ _) w9 w.heap.size HG.out.th2
              have HS := Lib.hid (entAt_stored HG.out.th2 0 (.slice none 0 0) (fun _ => 0))
              have HBS := Lib.hid (below_setCells w.heap.size (Nat.le_refl _) (entL 0 (.slice none 0 0) (fun _ => 0)) 0 HG.out.bel)
              clear HNk0 HG HTR HGd HM
              go_wp2_with (refine wpList_build_z (by rfl) rfl ?_)
              refine bodyPost_ret (results_ge _ _ w.heap.size 2 rfl rfl 0 _ _ HS.out) rfl ?_
              exact ⟨Or.inr ⟨HNk.out, rfl⟩, HBS.out⟩
            · obtain rfl : b4 = false := by cases b4 with | true => cases hE | false => rfl
              have hl4 : l4 = [] := by simpa using hE
              obtain ⟨h3, hI, hNZ⟩ := HGd.out rfl
              obtain ⟨⟨hvf, hkN, hEE⟩, -⟩ := HM.out h3
              have hTot : gTot bs = bs.length := by
                obtain ⟨h1, h2⟩ := HTR.out.2.2.1 rfl
                rw [hl4] at h1
                have := congrArg List.length h1
                rw [List.length_drop, List.length_nil] at this
                unfold gTot
                omega
              have hI' : ∀ j, j < 24 → I' j = gI bs j := fun j hj => (hI j hj).trans (gIs_all bs j hj)
              have HCg := Lib.hid (putB_congr (n := k) (E := E') (I := I') hvf hkN hEE hI')
              have HEB : Hid (EntB vf k E' I') := Lib.hid (entB_of HBY.out hvf hEE hI')
              have HL : Hid (entL vf sv I' = entL (gFr bs) sv (gI bs)) := Lib.hid (by rw [hvf]; exact entL_congr hI')
              have HEE := Lib.hid hEE
              have HkN := Lib.hid hkN
              have HTot := Lib.hid hTot
              have HNZ := Lib.hid hNZ
              clear HNk0 HTR HGd HM hE hl4 h3 hI hNZ hvf hkN hEE hTot hI'
              go_wp2_with (refine wpList_load_g (by rfl) 37 _ rfl b5 0 rfl _ _ HG.out.ent.range Try.underlying37 rfl (size_ent _ _ _) ?_)
              refine (mayRef_any vf sv k E' I' _ HG.out.own.evs HEB.out).mono ?_
              rintro e w10 ⟨rfl, hb10⟩
              replace HG := Lib.hid (HG.out.below hb10)
              clear hb10
              rcases hm : mayE vf k E' I' with _ | _
              · have HNk : Hid (¬ OkG bs) := Lib.hid (fun hok => by have := hok.2.1; rw [← HCg.out.2.1, hm] at this; cases this)
                have hst := store_ent_there 0 (.slice none 0 0) (fun _ => 0) (one_nilE _ _) w10 w.heap.size HG.out.th2
                have HS := Lib.hid (entAt_stored HG.out.th2 0 (.slice none 0 0) (fun _ => 0))
                have HBS := Lib.hid (below_setCells w.heap.size (Nat.le_refl _) (entL 0 (.slice none 0 0) (fun _ => 0)) 0 HG.out.bel)
                go_wp2_with (refine wpList_build_z (by rfl) rfl ?_)
                refine bodyPost_ret (results_ge _ _ w.heap.size 2 rfl rfl 0 _ _ HS.out) rfl ?_
                exact ⟨Or.inr ⟨HNk.out, rfl⟩, HBS.out⟩
              · have HOk : Hid (OkG bs) := Lib.hid (ok_of HBY.out HTot.out (by rw [← HCg.out.2.1]; exact hm) HNZ.out)
                have hst := store_ent_there vf sv I' (HG.out.own.evs.one _ _) w10 w.heap.size HG.out.th2
                have HS := Lib.hid (entAt_stored HG.out.th2 vf sv I')
                have HBS := Lib.hid (below_setCells w.heap.size (Nat.le_refl _) (entL vf sv I') 0 HG.out.bel)
                have hbw := below_setCells w.heap.size (Nat.le_refl _) (entL vf sv I') 0 (Below.refl w.heap.size w10)
                have HOE := Lib.hid (HG.out.own.other (R := w.heap.size) (w' := w10.setCells w.heap.size 0 (entL vf sv I')) ⟨hbw.os, hbw.tape, hbw.output, setCells_size _ _ _ _, fun j hj => setCells_other w.heap.size j hj (entL vf sv I') 0 w10⟩ (by omega))
                clear hbw
                go_wp2_with (refine wpList_load_g (by rfl) 37 _ rfl b5 0 rfl _ _ HG.out.ent.range Try.underlying37 rfl (size_ent _ _ _) ?_)
                refine bodyPost_ret (results_ge _ _ w.heap.size 0 rfl rfl vf sv I' HS.out) rfl ?_
                exact ⟨Or.inl ⟨HOk.out, sv, by rw [HL.out], ownE_congr (HOE.out.mono (by have := HG.out.g5; omega)) HkN.out HEE.out⟩, HBS.out⟩
    · skip
      have HEx : Hid (bad = false → vf = gFr bs ∧ k = gN bs ∧ ∀ i, i < k → E' i 0 = gE bs i 0 ∧ E' i 1 = gE bs i 1 ∧ E' i 2 = gE bs i 2 ∧ E' i 3 = gE bs i 3) := Lib.hid (fun h => by
        obtain ⟨h1, h2, h3⟩ := HGd.out h
        obtain ⟨h4, h5⟩ := HG2.out h1
        exact ⟨h4, by omega, h3⟩)
      have HRG := Lib.hid hR
      have HNo2 : Hid (bs.length < 5 + 5 * k + 1 → ¬ OkG bs) := Lib.hid (fun h hok => by
        cases bad with
        | true => exact HTR.out.2.2.2 rfl hok
        | false => have := ok_six hok; have := (HEx.out rfl).2.1; omega)
      clear hR HGd
      go_wp2_with fail
      refine (rInt1_trk (w.heap.size + 1) bs l bad (5 + 5 * k) wr HRG.out HTR.out HNo2.out).mono ?_
      rintro e w6 ⟨vm, l3, b3, rfl, hr, ht, hg, -, hd⟩
      replace HG := Lib.hid (HG.out.rd hd)
      replace HRG := Lib.hid hr
      have HM : Hid (b3 = false → (vf = gFr bs ∧ k = gN bs ∧ ∀ i, i < k → E' i 0 = gE bs i 0 ∧ E' i 1 = gE bs i 1 ∧ E' i 2 = gE bs i 2 ∧ E' i 3 = gE bs i 3) ∧ vm = (gM bs : Int)) := Lib.hid (fun h => by
        obtain ⟨h1, h2⟩ := hg h
        have h3 := HEx.out h1
        refine ⟨h3, ?_⟩
        have := HBY.out (5 + 5 * gN bs)
        rw [h2, h3.2.1]; unfold gM; omega)
      have HTs : Hid (Trk bs (6 + 5 * gN bs + 3 * gcnt (gM bs) 0) l3 b3) := Lib.hid (by
        cases b3 with
        | true => exact trk_bad _ ht
        | false =>
          have := (HM.out rfl).1.2.1
          rw [show 6 + 5 * gN bs + 3 * gcnt (gM bs) 0 = 5 + 5 * k + 1 by show 6 + 5 * gN bs + 3 * 0 = _; omega]
          exact ht)
      clear hr ht hg hd HTR HNo2 HEx
      go_wp2_with fail
      go_loopw [10] (fun i wr => ∃ (s : Nat) (I' : Nat → Int) (l : List Int) (bad : Bool), s ≤ 8 ∧ i = .int .i64 s ∧ GT w b5 vf sv k E' I' wr ∧ RG wr (w.heap.size + 1) l bad ∧ Trk bs (6 + 5 * gN bs + 3 * gcnt (gM bs) s) l bad ∧ (bad = false → b3 = false ∧ (∀ j, j < 24 → I' j = gIs bs s j) ∧ ∀ t, t < s → (gM bs).testBit t = true → inpNZ (gI bs) t = true)) (fun i _ => 8 - (intOf i).toNat)
      case atStart => exact ⟨0, _, l3, b3, by omega, rfl, HG.out, HRG.out, HTs.out, fun h => ⟨h, fun j _ => by unfold gIs; rw [if_neg (by omega)], fun t ht => by omega⟩⟩
      case round =>
        obtain ⟨s, I', l4, b4, hs, rfl, hG, hR, hT, hGd⟩ := hrel
        clear HG HRG HTs
        have HG := Lib.hid hG
        have HTR := Lib.hid hT
        have HGd := Lib.hid hGd
        have HRG := Lib.hid hR
        clear hG hT hGd hR
        by_cases hlt : s < 8
        · have HBT : Hid (b4 = false → (bits .and .i64 (vm / 2 ^ s) 1 == 1) = (gM bs).testBit s) := Lib.hid (fun h => by
            rw [(HM.out (HGd.out h).1).2]; exact bit_test _ _ (gM_lt HBY.out) hlt)
          rcases hbt : (bits .and .i64 (vm / 2 ^ s) 1 == 1) with _ | _
          · have HTn : Hid (Trk bs (6 + 5 * gN bs + 3 * gcnt (gM bs) (s + 1)) l4 b4) := Lib.hid (by
              cases b4 with
              | true => exact trk_bad _ HTR.out
              | false =>
                have h1 := HBT.out rfl
                rw [hbt] at h1
                rw [gcnt_no _ _ h1.symm]
                exact HTR.out)
            have HFn : Hid (b4 = false → b3 = false ∧ (∀ j, j < 24 → I' j = gIs bs (s + 1) j) ∧ ∀ t, t < s + 1 → (gM bs).testBit t = true → inpNZ (gI bs) t = true) := Lib.hid (fun h => by
              have h1 := HBT.out h
              rw [hbt] at h1
              obtain ⟨g1, g2, g3⟩ := HGd.out h
              rw [gIs_no _ _ h1.symm]
              refine ⟨g1, g2, fun t ht hb => ?_⟩
              by_cases e : t = s
              · subst e; rw [hb] at h1; cases h1
              · exact g3 t (by omega) hb)
            clear HTR HGd HBT
            go_wp2_with fail
            exact ⟨⟨s + 1, I', l4, b4, by omega, rfl, HG.out, HRG.out, HTn.out, HFn.out⟩, by show 8 - (s + 1) < 8 - s; omega⟩
          · have HB2 : Hid (b4 = false → (gM bs).testBit s = true) := Lib.hid (fun h => by rw [← HBT.out h, hbt])
            have HNo3 : Hid (bs.length < 6 + 5 * gN bs + 3 * gcnt (gM bs) s + 3 → ¬ OkG bs) := Lib.hid (fun h hok => by
              cases b4 with
              | true => exact HTR.out.2.2.2 rfl hok
              | false =>
                have h1 := gcnt_yes _ _ (HB2.out rfl)
                have h2 := gcnt_mono (gM bs) (s + 1) 8 (by omega)
                have h3 := ok_tot hok
                unfold gTot at h3
                omega)
            clear HBT
            go_wp2_with fail
            refine (rInput_trk (w.heap.size + 1) bs l4 b4 _ HBY.out wr HRG.out HTR.out HNo3.out).mono ?_
            rintro e w7 ⟨x, y, z, l5, b5b, rfl, hr, ht, hg, hd⟩
            replace HG := Lib.hid (HG.out.rd hd)
            have hin := HG.out.ent.inps
            have c0 := hin.x s hlt
            have c1 := hin.y s hlt
            have c2 := hin.z s hlt
            have f0 : w7.frozen? ⟨b5, 2 + s * 3, none⟩ = false := by have := (HG.out.th5 (2 + s * 3) (by omega)).2; rwa [Nat.zero_add] at this
            have f1 : w7.frozen? ⟨b5, 2 + s * 3 + 1, none⟩ = false := by have := (HG.out.th5 (2 + s * 3 + 1) (by omega)).2; rwa [Nat.zero_add] at this
            have f2 : w7.frozen? ⟨b5, 2 + s * 3 + 2, none⟩ = false := by have := (HG.out.th5 (2 + s * 3 + 2) (by omega)).2; rwa [Nat.zero_add] at this
            have hne : b5 ≠ w.heap.size + 1 := by omega
            have hne' : w.heap.size + 1 ≠ b5 := by omega
            have r1 := hr.c1
            have q1 := hr.f1
            have hE := HG.out.set3 s hlt x y z
            have hR8 := ((hr.block (setCell_block (w := w7) (b := b5) (j := 2 + s * 3) (u := .int .i8 x) hne')).block (setCell_block (b := b5) (j := 2 + s * 3 + 1) (u := .int .i8 y) hne')).block (setCell_block (b := b5) (j := 2 + s * 3 + 2) (u := .int .u8 z) hne')
            have hin8 := hE.ent.inps
            have k0 := hin8.x s hlt
            have k1 := hin8.y s hlt
            have k2 := hin8.z s hlt
            have u0 : updI (updI (updI I' (s * 3) x) (s * 3 + 1) y) (s * 3 + 2) z (s * 3) = x := by unfold updI; rw [if_neg (by omega), if_neg (by omega), if_pos rfl]
            have u1 : updI (updI (updI I' (s * 3) x) (s * 3 + 1) y) (s * 3 + 2) z (s * 3 + 1) = y := by unfold updI; rw [if_neg (by omega), if_pos rfl]
            have u2 : updI (updI (updI I' (s * 3) x) (s * 3 + 1) y) (s * 3 + 2) z (s * 3 + 2) = z := by unfold updI; rw [if_pos rfl]
            rw [u0] at k0
            rw [u1] at k1
            rw [u2] at k2
            have HE := Lib.hid hE
            have HR8 := Lib.hid hR8
            have HTq : Hid (∀ nb : Bool, (nb = false → b5b = false) → (nb = true → ¬ OkG bs) → Trk bs (6 + 5 * gN bs + 3 * gcnt (gM bs) (s + 1)) l5 nb) := Lib.hid (fun nb h1 h2 => by
              cases nb with
              | true => exact ⟨ht.1, ht.2.1, fun h => (by cases h), fun _ => h2 rfl⟩
              | false =>
                have hb := h1 rfl
                subst hb
                have hb4 := (hg rfl).1
                rw [gcnt_yes _ _ (HB2.out hb4), show 6 + 5 * gN bs + 3 * (gcnt (gM bs) s + 1) = 6 + 5 * gN bs + 3 * gcnt (gM bs) s + 3 by omega]
                exact ht)
            have HBad : Hid (b5b = true → ¬ OkG bs) := Lib.hid ht.2.2.2
            have HFq : Hid (b5b = false → inpNZ (gI bs) s = !(x == 0 && (y == 0 && z == 0)) ∧ (inpNZ (gI bs) s = true → (b3 = false ∧ (∀ j, j < 24 → updI (updI (updI I' (s * 3) x) (s * 3 + 1) y) (s * 3 + 2) z j = gIs bs (s + 1) j) ∧ ∀ t, t < s + 1 → (gM bs).testBit t = true → inpNZ (gI bs) t = true)) ∧ (OkG bs → inpNZ (gI bs) s = true)) := Lib.hid (fun h => by
              obtain ⟨hb4, ex, ey, ez⟩ := hg h
              have hb := HB2.out hb4
              obtain ⟨g1, g2, g3⟩ := HGd.out hb4
              have hI := gIs_yes bs s hb
              have i0 : gI bs (s * 3) = x := by unfold gI; rw [show s * 3 / 3 = s by omega, if_pos hb, if_neg (by omega), show s * 3 % 3 = 0 by omega, ex]; rfl
              have i1 : gI bs (s * 3 + 1) = y := by unfold gI; rw [show (s * 3 + 1) / 3 = s by omega, if_pos hb, if_neg (by omega), show (s * 3 + 1) % 3 = 1 by omega, ey]
              have i2 : gI bs (s * 3 + 2) = z := by unfold gI; rw [show (s * 3 + 2) / 3 = s by omega, if_pos hb, if_pos (by omega), show (s * 3 + 2) % 3 = 2 by omega, ez]
              refine ⟨by unfold inpNZ; rw [i0, i1, i2], fun hnz => ⟨g1, fun j hj => ?_, fun t ht hbt => ?_⟩, fun hok => ok_nz hok s hlt hb⟩
              · rw [hI, ex, ey, ez]
                unfold updI
                by_cases e2 : j = s * 3 + 2
                · rw [if_pos e2, if_pos e2]
                · rw [if_neg e2, if_neg e2]
                  by_cases e1 : j = s * 3 + 1
                  · rw [if_pos e1, if_pos e1]
                  · rw [if_neg e1, if_neg e1]
                    by_cases e0 : j = s * 3
                    · rw [if_pos e0, if_pos e0]
                    · rw [if_neg e0, if_neg e0]; exact g2 j hj
              · by_cases e : t = s
                · subst e; exact hnz
                · exact g3 t (by omega) hbt)
            clear hr ht hg hd HGd HTR HNo3 HB2 hE hR8 hin hin8 u0 u1 u2 HRG
            cases b5b with
            | true =>
              go_wp2_with fail
              exact ⟨⟨s + 1, _, l5, true, by omega, rfl, HE.out.setR _, HR8.out.setBad true, HTq.out true (fun h => (by cases h)) (fun _ => HBad.out (by first | rfl | trivial)), fun h => (by cases h)⟩, by show 8 - (s + 1) < 8 - s; omega⟩
            | false =>
              rcases hx : (x == 0) with _ | _
              · skip
                have HNz : Hid (inpNZ (gI bs) s = true) := Lib.hid (by rw [(HFq.out rfl).1]; simp [hx])
                go_wp2_with fail
                exact ⟨⟨s + 1, _, l5, false, by omega, rfl, HE.out.setR _, HR8.out.setBad false, HTq.out false (fun _ => (by first | rfl | trivial)) (fun h => (by cases h)), fun _ => (HFq.out (by first | rfl | trivial)).2.1 HNz.out⟩, by show 8 - (s + 1) < 8 - s; omega⟩
              obtain rfl := eq_of_beq hx
              rcases hy : (y == 0) with _ | _
              · skip
                have HNz : Hid (inpNZ (gI bs) s = true) := Lib.hid (by rw [(HFq.out rfl).1]; simp [hy])
                go_wp2_with fail
                exact ⟨⟨s + 1, _, l5, false, by omega, rfl, HE.out.setR _, HR8.out.setBad false, HTq.out false (fun _ => (by first | rfl | trivial)) (fun h => (by cases h)), fun _ => (HFq.out (by first | rfl | trivial)).2.1 HNz.out⟩, by show 8 - (s + 1) < 8 - s; omega⟩
              obtain rfl := eq_of_beq hy
              rcases hzz : (z == 0) with _ | _
              · skip
                have HNz : Hid (inpNZ (gI bs) s = true) := Lib.hid (by rw [(HFq.out rfl).1]; simp [hzz])
                go_wp2_with fail
                exact ⟨⟨s + 1, _, l5, false, by omega, rfl, HE.out.setR _, HR8.out.setBad false, HTq.out false (fun _ => (by first | rfl | trivial)) (fun h => (by cases h)), fun _ => (HFq.out (by first | rfl | trivial)).2.1 HNz.out⟩, by show 8 - (s + 1) < 8 - s; omega⟩
              obtain rfl := eq_of_beq hzz
              have HNk : Hid (¬ OkG bs) := Lib.hid (fun hok => by
                have h1 := (HFq.out rfl).1
                rw [(HFq.out rfl).2.2 hok] at h1
                cases h1)
              go_wp2_with fail
              exact ⟨⟨s + 1, _, l5, true, by omega, rfl, HE.out.setR _, HR8.out.setBad true, HTq.out true (fun h => (by cases h)) (fun _ => HNk.out), fun h => (by cases h)⟩, by show 8 - (s + 1) < 8 - s; omega⟩
        · obtain rfl : s = 8 := by omega
          have hnk0 : (!b4 && decide (l4 = [])) = false → ¬ OkG bs := fun h hok => by
            cases b4 with
            | true => exact HTR.out.2.2.2 rfl hok
            | false =>
              have h1 := (HTR.out.2.2.1 rfl).1
              have h2 : gTot bs = bs.length := ok_tot hok
              unfold gTot at h2
              rw [h2, List.drop_length] at h1
              rw [h1] at h
              cases h
          have HNk0 := Lib.hid hnk0
          clear hnk0
          go_wp2_with fail
          refine (rEnd_any (w.heap.size + 1) l4 b4 wr HRG.out).mono ?_
          rintro e w9 ⟨rfl, hw9⟩
          have hG9 : GT w b5 vf sv k E' I' w9 := by rw [hw9]; exact HG.out
          replace HG := Lib.hid hG9
          clear hw9 hG9 HRG
          rcases hE : (!b4 && decide (l4 = [])) with _ | _
          · have HNk : Hid (¬ OkG bs) := Lib.hid (HNk0.out hE)
            have hst := store_ent_there 0 (.slice none 0 0) (fun _ => 0) (one_nilE _ _) w9 w.heap.size HG.out.th2
            have HS := Lib.hid (entAt_stored HG.out.th2 0 (.slice none 0 0) (fun _ => 0))
            have HBS := Lib.hid (below_setCells w.heap.size (Nat.le_refl _) (entL 0 (.slice none 0 0) (fun _ => 0)) 0 HG.out.bel)
            clear HNk0 HG HTR HGd HM
            go_wp2_with (refine wpList_build_z (by rfl) rfl ?_)
            refine bodyPost_ret (results_ge _ _ w.heap.size 2 rfl rfl 0 _ _ HS.out) rfl ?_
            exact ⟨Or.inr ⟨HNk.out, rfl⟩, HBS.out⟩
          · obtain rfl : b4 = false := by cases b4 with | true => cases hE | false => rfl
            have hl4 : l4 = [] := by simpa using hE
            obtain ⟨h3, hI, hNZ⟩ := HGd.out rfl
            obtain ⟨⟨hvf, hkN, hEE⟩, -⟩ := HM.out h3
            have hTot : gTot bs = bs.length := by
              obtain ⟨h1, h2⟩ := HTR.out.2.2.1 rfl
              rw [hl4] at h1
              have := congrArg List.length h1
              rw [List.length_drop, List.length_nil] at this
              unfold gTot
              omega
            have hI' : ∀ j, j < 24 → I' j = gI bs j := fun j hj => (hI j hj).trans (gIs_all bs j hj)
            have HCg := Lib.hid (putB_congr (n := k) (E := E') (I := I') hvf hkN hEE hI')
            have HEB : Hid (EntB vf k E' I') := Lib.hid (entB_of HBY.out hvf hEE hI')
            have HL : Hid (entL vf sv I' = entL (gFr bs) sv (gI bs)) := Lib.hid (by rw [hvf]; exact entL_congr hI')
            have HEE := Lib.hid hEE
            have HkN := Lib.hid hkN
            have HTot := Lib.hid hTot
            have HNZ := Lib.hid hNZ
            clear HNk0 HTR HGd HM hE hl4 h3 hI hNZ hvf hkN hEE hTot hI'
            go_wp2_with (refine wpList_load_g (by rfl) 37 _ rfl b5 0 rfl _ _ HG.out.ent.range Try.underlying37 rfl (size_ent _ _ _) ?_)
            refine (mayRef_any vf sv k E' I' _ HG.out.own.evs HEB.out).mono ?_
            rintro e w10 ⟨rfl, hb10⟩
            replace HG := Lib.hid (HG.out.below hb10)
            clear hb10
            rcases hm : mayE vf k E' I' with _ | _
            · have HNk : Hid (¬ OkG bs) := Lib.hid (fun hok => by have := hok.2.1; rw [← HCg.out.2.1, hm] at this; cases this)
              have hst := store_ent_there 0 (.slice none 0 0) (fun _ => 0) (one_nilE _ _) w10 w.heap.size HG.out.th2
              have HS := Lib.hid (entAt_stored HG.out.th2 0 (.slice none 0 0) (fun _ => 0))
              have HBS := Lib.hid (below_setCells w.heap.size (Nat.le_refl _) (entL 0 (.slice none 0 0) (fun _ => 0)) 0 HG.out.bel)
              go_wp2_with (refine wpList_build_z (by rfl) rfl ?_)
              refine bodyPost_ret (results_ge _ _ w.heap.size 2 rfl rfl 0 _ _ HS.out) rfl ?_
              exact ⟨Or.inr ⟨HNk.out, rfl⟩, HBS.out⟩
            · have HOk : Hid (OkG bs) := Lib.hid (ok_of HBY.out HTot.out (by rw [← HCg.out.2.1]; exact hm) HNZ.out)
              have hst := store_ent_there vf sv I' (HG.out.own.evs.one _ _) w10 w.heap.size HG.out.th2
              have HS := Lib.hid (entAt_stored HG.out.th2 vf sv I')
              have HBS := Lib.hid (below_setCells w.heap.size (Nat.le_refl _) (entL vf sv I') 0 HG.out.bel)
              have hbw := below_setCells w.heap.size (Nat.le_refl _) (entL vf sv I') 0 (Below.refl w.heap.size w10)
              have HOE := Lib.hid (HG.out.own.other (R := w.heap.size) (w' := w10.setCells w.heap.size 0 (entL vf sv I')) ⟨hbw.os, hbw.tape, hbw.output, setCells_size _ _ _ _, fun j hj => setCells_other w.heap.size j hj (entL vf sv I') 0 w10⟩ (by omega))
              clear hbw
              go_wp2_with (refine wpList_load_g (by rfl) 37 _ rfl b5 0 rfl _ _ HG.out.ent.range Try.underlying37 rfl (size_ent _ _ _) ?_)
              refine bodyPost_ret (results_ge _ _ w.heap.size 0 rfl rfl vf sv I' HS.out) rfl ?_
              exact ⟨Or.inl ⟨HOk.out, sv, by rw [HL.out], ownE_congr (HOE.out.mono (by have := HG.out.g5; omega)) HkN.out HEE.out⟩, HBS.out⟩
end Go.Proofs.Ytembppihfcclcaa
