/-
  Entry: told.
-/
import Derived.Test.YtmhgkkfeohaojaaL
namespace Go.Proofs.Ytmhgkkfeohaojaa
set_option linter.unusedVariables false
open Go.ChangeShapes Go.WideShapes Go.ChangeAt Go.RowKit

def tI9 : Nat → Int := updI (fun _ => 0) 11 9
theorem one_nil (fr : Int) (I : Nat → Int) : (entL fr (.slice none 0 0) I).toArray.all (·.oneCell') = true := entL_one fr none 0 0 I
theorem tb_gFr : gFr tb = 7 := rfl
set_option maxHeartbeats 4000000 in
theorem told_law (w : World) : Calls Try.prog 9 #[] w fun e w' => e = .returned (.bool true) ∧ Below w.heap.size w w' := by
  have hnil : ∀ W, EvsV W (.slice none 0 0) 0 (gE tb) := fun W => ⟨none, 0, rfl, Nat.le_refl _, Nat.zero_le _, fun h => absurd h (by omega)⟩
  have hz := zeroEnt
  have hst1 := store_new 7 (.slice none 0 0) (fun _ => 0) (one_nil _ _) w _ rfl
  go_enter Try.func9, Try.ntmps9
  have e1 := entAt_new 7 (.slice none 0 0) (fun _ => 0) 28 w
  have b1 := (Below.refl w.heap.size w).alloc (Nat.le_refl _) (Obj.cells (entL 7 (.slice none 0 0) (fun _ => 0)).toArray 28)
  have f1 := fz_new (entL 7 (.slice none 0 0) (fun _ => 0)) 28 w 13
  go_wp2_with (first | (refine wpList_build_fr 7 (by rfl) _ rfl rfl ?_) | (refine wpList_load_g (by rfl) 28 _ rfl w.heap.size 0 rfl _ _ e1.range Try.underlying28 rfl (size_ent _ _ _) ?_))
  clear hst1
  have HE := Lib.hid e1
  have HB := Lib.hid b1
  have HF := Lib.hid f1
  clear e1 b1 f1
  generalize w.alloc (Obj.cells (entL 7 (.slice none 0 0) (fun _ => 0)).toArray 28) = w1 at *
  generalize hT : w.heap.size = T at *
  refine (put_yes 7 (.slice none 0 0) 0 (gE tb) (fun _ => 0) w1 (hnil w1) (by omega) (by decide)).mono ?_
  rintro e w2 ⟨⟨v, rfl, hO⟩, hb2⟩
  rw [put7] at hO
  have hlt0 := HE.out.lt
  have HV := Lib.hid (OwnB.mono (B' := T + 1) hO hlt0)
  replace HE := Lib.hid (HE.out.block (hb2.block _ HE.out.lt))
  replace HF := Lib.hid ((World.frozen?_of_block (a := ⟨T, 13, none⟩) (hb2.block T hlt0)).trans HF.out)
  replace HB := Lib.hid (HB.out.trans (hb2.mono (by have := HB.out.size; omega)))
  clear hO hb2
  go_wp2_with fail
  refine (get_any v tb w2 (HV.out.bytes (by decide)) tb_by).mono ?_
  rintro e w3 ⟨hp, hb3⟩
  rcases hp with ⟨-, sv, rfl, hev⟩ | ⟨hno, -⟩
  rotate_left
  · exact absurd ok_tb hno
  rw [gI_tb, tb_gFr]
  have hlt1 := HE.out.lt
  replace HE := Lib.hid (HE.out.block (hb3.block _ HE.out.lt))
  replace HF := Lib.hid ((World.frozen?_of_block (a := ⟨T, 13, none⟩) (hb3.block T hlt1)).trans HF.out)
  replace HB := Lib.hid (HB.out.trans (hb3.mono (by have := HB.out.size; omega)))
  replace HV := Lib.hid (HV.out.below hb3 (Nat.le_refl _))
  have hst2 := store_new 7 sv (fun _ => 0) (hev.one _ _) w3 _ rfl
  have k3 := fun k hk => Below.heap_alloc w3 (Obj.cells (entL 7 sv (fun _ => 0)).toArray 28) k hk
  have HX := Lib.hid (entAt_new 7 sv (fun _ => 0) 28 w3)
  have hlt2 := HE.out.lt
  replace HE := Lib.hid (HE.out.block (k3 _ HE.out.lt))
  replace HF := Lib.hid ((World.frozen?_of_block (a := ⟨T, 13, none⟩) (k3 T hlt2)).trans HF.out)
  have b4 := (Below.refl w3.heap.size w3).alloc (Nat.le_refl _) (Obj.cells (entL 7 sv (fun _ => 0)).toArray 28)
  replace HV := Lib.hid (HV.out.below b4 (Nat.le_refl _))
  have HEV := Lib.hid (hev.below b4 (Nat.le_refl _))
  replace HB := Lib.hid (HB.out.trans (b4.mono (by have := HB.out.size; omega)))
  clear hb3 k3 b4 hev
  go_wp2_with fail
  clear hst2
  have hT4 : T < w3.heap.size ∨ True := Or.inr trivial
  clear hT4
  generalize w3.alloc (Obj.cells (entL 7 sv (fun _ => 0)).toArray 28) = w4 at *
  generalize w3.heap.size = X at *
  refine (get_any (.slice none 0 0) [] w4 ⟨none, 0, rfl, Nat.le_refl _, Nat.zero_le _, fun h => absurd h (by decide)⟩ (fun i => by unfold zz; simp)).mono ?_
  rintro e w5 ⟨hp, hb5⟩
  rcases hp with ⟨hno, -⟩ | ⟨-, rfl⟩
  · exact absurd hno not_ok_nil
  have hlt3 := HE.out.lt
  replace HE := Lib.hid (HE.out.block (hb5.block _ HE.out.lt))
  replace HF := Lib.hid ((World.frozen?_of_block (a := ⟨T, 13, none⟩) (hb5.block T hlt3)).trans HF.out)
  replace HX := Lib.hid (HX.out.block (hb5.block _ HX.out.lt))
  replace HB := Lib.hid (HB.out.trans (hb5.mono (by have := HB.out.size; omega)))
  replace HV := Lib.hid (HV.out.below hb5 (Nat.le_refl _))
  replace HEV := Lib.hid (HEV.out.below hb5 (Nat.le_refl _))
  have hst2 := store_new 0 (.slice none 0 0) (fun _ => 0) (one_nil _ _) w5 _ rfl
  have k5 := fun k hk => Below.heap_alloc w5 (Obj.cells (entL 0 (.slice none 0 0) (fun _ => 0)).toArray 28) k hk
  have hlt4 := HE.out.lt
  replace HE := Lib.hid (HE.out.block (k5 _ HE.out.lt))
  replace HF := Lib.hid ((World.frozen?_of_block (a := ⟨T, 13, none⟩) (k5 T hlt4)).trans HF.out)
  replace HX := Lib.hid (HX.out.block (k5 _ HX.out.lt))
  have b6 := (Below.refl w5.heap.size w5).alloc (Nat.le_refl _) (Obj.cells (entL 0 (.slice none 0 0) (fun _ => 0)).toArray 28)
  replace HV := Lib.hid (HV.out.below b6 (Nat.le_refl _))
  replace HEV := Lib.hid (HEV.out.below b6 (Nat.le_refl _))
  replace HB := Lib.hid (HB.out.trans (b6.mono (by have := HB.out.size; omega)))
  clear hb5 k5 b6
  go_wp2_with (refine wpList_build_fr (-1) (by rfl) _ rfl rfl ?_)
  clear hst2
  generalize w5.alloc (Obj.cells (entL 0 (.slice none 0 0) (fun _ => 0)).toArray 28) = w6 at *
  generalize w5.heap.size = Y at *
  refine (put_no (-1) (.slice none 0 0) 0 (gE tb) (fun _ => 0) w6 (hnil w6) (by decide)).mono ?_
  rintro e w7 ⟨rfl, hb7⟩
  have hlt5 := HE.out.lt
  replace HE := Lib.hid (HE.out.block (hb7.block _ HE.out.lt))
  replace HF := Lib.hid ((World.frozen?_of_block (a := ⟨T, 13, none⟩) (hb7.block T hlt5)).trans HF.out)
  replace HX := Lib.hid (HX.out.block (hb7.block _ HX.out.lt))
  replace HB := Lib.hid (HB.out.trans (hb7.mono (by have := HB.out.size; omega)))
  replace HV := Lib.hid (HV.out.below hb7 (Nat.le_refl _))
  replace HEV := Lib.hid (HEV.out.below hb7 (Nat.le_refl _))
  clear hb7
  have c13 : w7.cell? ⟨T, 13, none⟩ = some (.int .u8 0) := HE.out.cell 13 (by decide)
  have f13 := HF.out
  have hO13 := (Only.refl T w7).setCell (p := ⟨T, 13, none⟩) rfl (.int .u8 9)
  have hE8 : EntAt (w7.setCell ⟨T, 13, none⟩ (.int .u8 9)) T 0 7 (.slice none 0 0) tI9 := HE.out.set 13 (fun j _ => by
    unfold tI9 entF inpV updI
    by_cases h0 : j = 0
    · rw [if_pos h0, if_neg (by omega), if_pos h0]
    · by_cases h1 : j = 1
      · rw [if_neg h0, if_pos h1, if_neg (by omega), if_neg h0, if_pos h1]
      · rw [if_neg h0, if_neg h1]
        by_cases h2 : j = 13
        · subst h2; rfl
        · rw [if_neg h2, if_neg h0, if_neg h1, if_neg (show ¬ (j - 2 = 11) by omega)])
  replace HE := Lib.hid hE8
  replace HX := Lib.hid (HX.out.block (hO13.block _ (by omega)))
  replace HB := Lib.hid (HB.out.trans (hO13.below (Nat.le_refl _)))
  replace HV := Lib.hid (HV.out.other hO13 (by omega))
  replace HEV := Lib.hid (EvsV.zero (w' := w7.setCell ⟨T, 13, none⟩ (.int .u8 9)) (E' := gE tb) HEV.out)
  clear hO13 hE8 HF
  have hc := conv_bytes (HV.out.bytes (by decide)) (by decide)
  have hs : Value.string (strOfNums tb) = .string ⟨#[7, 0, 0, 0, 0, 0]⟩ := rfl
  rw [hs] at hc
  clear hs
  have cX : (w7.setCell ⟨T, 13, none⟩ (.int .u8 9)).cell? ⟨X, 0, none⟩ = some (.int .i64 7) := HX.out.z0
  go_wp2_with (first | (refine wpList_load_g (by rfl) 28 _ rfl T 0 rfl _ _ HE.out.range Try.underlying28 rfl (size_ent _ _ _) ?_) | (refine wpList_load_g (by rfl) 28 _ rfl X 0 rfl _ _ HX.out.range Try.underlying28 rfl (size_ent _ _ _) ?_))
  clear hc c13 f13 cX
  generalize w7.setCell ⟨T, 13, none⟩ (.int .u8 9) = w8 at *
  refine (same_any 7 sv 0 (gE tb) (fun _ => 0) 7 (.slice none 0 0) 0 (gE tb) tI9 w8 HEV.out (hnil w8)).mono ?_
  rintro e w9 ⟨rfl, hb9⟩
  have hlt6 := HE.out.lt
  replace HE := Lib.hid (HE.out.block (hb9.block _ HE.out.lt))
  replace HB := Lib.hid (HB.out.trans (hb9.mono (by have := HB.out.size; omega)))
  rw [show sameB 7 0 (gE tb) (fun _ => 0) 7 0 (gE tb) tI9 = false by decide]
  clear hb9 HX HV HEV
  go_wp2_with (first | (refine wpList_load_g (by rfl) 28 _ rfl T 0 rfl _ _ HE.out.range Try.underlying28 rfl (size_ent _ _ _) ?_) | (refine wpList_bs_ent 7 (.slice none 0 0) tI9 (by rfl) _ rfl rfl ?_))
  have k10 := fun k hk => Below.heap_alloc w9 (Obj.cells (entL 7 (.slice none 0 0) tI9).toArray 28) k hk
  have HN10 := Lib.hid (entAt_new 7 (.slice none 0 0) tI9 28 w9)
  have hlu10 := HE.out.lt
  replace HE := Lib.hid (HE.out.block (k10 _ HE.out.lt))
  have b10 := (Below.refl w9.heap.size w9).alloc (Nat.le_refl _) (Obj.cells (entL 7 (.slice none 0 0) tI9).toArray 28)
  replace HB := Lib.hid (HB.out.trans (b10.mono (by have := HB.out.size; omega)))
  clear k10 b10
  generalize w9.alloc (Obj.cells (entL 7 (.slice none 0 0) tI9).toArray 28) = w10 at *
  have hnv : EntsV w10 (.slice none 0 0) 0 (fun _ => ⟨7, 0, gE tb, tI9⟩) := ⟨none, 0, rfl, Nat.le_refl _, Nat.zero_le _, fun h => absurd h (by omega)⟩
  refine (front_any 0 1 (fun _ => ⟨7, 0, gE tb, tI9⟩) (fun _ => ⟨7, 0, gE tb, tI9⟩) _ _ w10 hnv (EntsV.one HN10.out (hnil _))).mono ?_
  rintro e w11 ⟨rfl, hb11⟩
  have hlt7 := HE.out.lt
  replace HE := Lib.hid (HE.out.block (hb11.block _ HE.out.lt))
  replace HB := Lib.hid (HB.out.trans (hb11.mono (by have := HB.out.size; omega)))
  rw [show frontB 0 (fun _ => (⟨7, 0, gE tb, tI9⟩ : Ent)) 1 (fun _ => ⟨7, 0, gE tb, tI9⟩) = true from rfl]
  clear hb11 HN10 hnv
  go_wp2_with (first | (refine wpList_load_g (by rfl) 28 _ rfl T 0 rfl _ _ HE.out.range Try.underlying28 rfl (size_ent _ _ _) ?_) | (refine wpList_bs_ent 7 (.slice none 0 0) tI9 (by rfl) _ rfl rfl ?_))
  have k12 := fun k hk => Below.heap_alloc w11 (Obj.cells (entL 7 (.slice none 0 0) tI9).toArray 28) k hk
  have HN12 := Lib.hid (entAt_new 7 (.slice none 0 0) tI9 28 w11)
  have hlu12 := HE.out.lt
  replace HE := Lib.hid (HE.out.block (k12 _ HE.out.lt))
  have b12 := (Below.refl w11.heap.size w11).alloc (Nat.le_refl _) (Obj.cells (entL 7 (.slice none 0 0) tI9).toArray 28)
  replace HB := Lib.hid (HB.out.trans (b12.mono (by have := HB.out.size; omega)))
  clear k12 b12
  generalize w11.alloc (Obj.cells (entL 7 (.slice none 0 0) tI9).toArray 28) = w12 at *
  have hnv : EntsV w12 (.slice none 0 0) 0 (fun _ => ⟨7, 0, gE tb, tI9⟩) := ⟨none, 0, rfl, Nat.le_refl _, Nat.zero_le _, fun h => absurd h (by omega)⟩
  refine (front_any 1 0 (fun _ => ⟨7, 0, gE tb, tI9⟩) (fun _ => ⟨7, 0, gE tb, tI9⟩) _ _ w12 (EntsV.one HN12.out (hnil _)) hnv).mono ?_
  rintro e w13 ⟨rfl, hb13⟩
  have hlt8 := HE.out.lt
  replace HE := Lib.hid (HE.out.block (hb13.block _ HE.out.lt))
  replace HB := Lib.hid (HB.out.trans (hb13.mono (by have := HB.out.size; omega)))
  rw [show frontB 1 (fun _ => (⟨7, 0, gE tb, tI9⟩ : Ent)) 0 (fun _ => ⟨7, 0, gE tb, tI9⟩) = false from rfl]
  clear hb13 HN12 hnv
  go_wp2_with (first | (refine wpList_load_g (by rfl) 28 _ rfl T 0 rfl _ _ HE.out.range Try.underlying28 rfl (size_ent _ _ _) ?_) | (refine wpList_bs_ent 7 (.slice none 0 0) tI9 (by rfl) _ rfl rfl ?_))
  refine (may_any 7 (.slice none 0 0) 0 (gE tb) tI9 w13 (hnil _)).mono ?_
  rintro e w14 ⟨rfl, hb14⟩
  replace HB := Lib.hid (HB.out.trans (hb14.mono (by have := HB.out.size; omega)))
  rw [show mayE 7 0 (gE tb) tI9 = true by decide]
  clear hb14 HE
  go_wp2_with fail
  go_ret
  exact ⟨rfl, by rw [hT]; exact HB.out⟩
end Go.Proofs.Ytmhgkkfeohaojaa
