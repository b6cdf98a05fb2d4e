/-
  Entry: Put.
-/
import Derived.Test.YtembppihfcclcaaG0
namespace Go.Proofs.Ytembppihfcclcaa
set_option linter.unusedVariables false
open Go.ChangeShapes Go.WideShapes Go.ChangeAt Go.RowKit

theorem put_no (fr : Int) (sv : Value) (n : Nat) (E : Nat → Nat → Int) (I : Nat → Int) (w : World) (hsv : EvsV w sv n E) (hno : mayE fr n E I = false) :
    Calls Try.prog 35 #[.agg (entL fr sv I).toArray] w fun e w' => e = .returned (.tuple #[.slice none 0 0, .int .i64 1]) ∧ Below w.heap.size w w' := by
  have HA := Lib.hid (entAt_new fr sv I 37 w)
  have HB := Lib.hid ((Below.refl w.heap.size w).alloc (Nat.le_refl _) (Obj.cells (entL fr sv I).toArray 37))
  have HV := Lib.hid (hsv.below HB.out (Nat.le_refl _))
  clear hsv
  go_enter Try.func35, Try.ntmps35
  go_wp2_with (refine wpList_load_g (by rfl) 37 _ rfl w.heap.size 0 rfl _ _ HA.out.range Try.underlying37 rfl (size_ent _ _ _) ?_)
  refine (may_any fr sv n E I _ HV.out).mono ?_
  rintro e w2 ⟨rfl, hb2⟩
  have HB2 := Lib.hid (HB.out.trans (hb2.mono HB.out.size))
  clear hb2
  rw [hno]
  go_wp2_with fail
  go_ret2
  exact ⟨rfl, HB2.out⟩
theorem mayE_parts {fr : Int} {n : Nat} {E : Nat → Nat → Int} {I : Nat → Int} (h : mayE fr n E I = true) : (0 ≤ fr ∧ fr < 1048576) ∧ evsOk E n = true ∧ inpAll I 8 = true := by
  unfold mayE at h
  simp only [Bool.and_eq_true, decide_eq_true_eq] at h
  exact ⟨⟨h.1, h.2.1⟩, h.2.2⟩
set_option maxHeartbeats 2000000 in
theorem put_yes (fr : Int) (sv : Value) (n : Nat) (E : Nat → Nat → Int) (I : Nat → Int) (w : World) (hsv : EvsV w sv n E) (hn16 : n ≤ 1000) (hyes : mayE fr n E I = true) :
    Calls Try.prog 35 #[.agg (entL fr sv I).toArray] w fun e w' => (∃ v, e = .returned (.tuple #[v, .int .i64 0]) ∧ OwnB w' w.heap.size v (putB fr n E I)) ∧ Below w.heap.size w w' := by
  have HA := Lib.hid (entAt_new fr sv I 37 w)
  have HB := Lib.hid ((Below.refl w.heap.size w).alloc (Nat.le_refl _) (Obj.cells (entL fr sv I).toArray 37))
  have HV := Lib.hid (hsv.below HB.out (Nat.le_refl _))
  have HV0 := Lib.hid hsv
  clear hsv
  go_enter Try.func35, Try.ntmps35
  go_wp2_with (refine wpList_load_g (by rfl) 37 _ rfl w.heap.size 0 rfl _ _ HA.out.range Try.underlying37 rfl (size_ent _ _ _) ?_)
  refine (may_any fr sv n E I _ HV.out).mono ?_
  rintro e w2 ⟨rfl, hb2⟩
  have HB2 := Lib.hid (HB.out.trans (hb2.mono HB.out.size))
  have HA2 := Lib.hid (HA.out.block (hb2.block _ HA.out.lt))
  clear hb2 HA HB HV
  rw [hyes]
  have c0 := HA2.out.z0
  have c1 := HA2.out.z1
  have c1' : ∀ o, (w2.alloc o).cell? ⟨w.heap.size, 1, none⟩ = some sv := fun o => (HA2.out.block (Below.heap_alloc w2 o _ HA2.out.lt)).z1
  obtain ⟨a, cap, hsve, hnc, hcm, hev⟩ := HV0.out
  subst hsve
  unfold maxLen at hcm
  have HEV := Lib.hid hev
  clear hev
  go_wp2_with fail
  have hO : OwnB (w2.alloc (Obj.cells #[.int .u8 (fr % 256), .int .u8 (fr / 256 % 256), .int .u8 (fr / 65536 % 256), .int .u8 (fr / 16777216 % 256), .int .u8 ((n : Int) % 256)] 5)) w2.heap.size (.slice (some ⟨w2.heap.size, 0, none⟩) 5 5) (headB fr n ++ evsB E 0) := OwnB.lit (headB fr n) (by unfold headB maxLen; simp)
  have hA3 := HA2.out.block (Below.heap_alloc w2 (Obj.cells #[.int .u8 (fr % 256), .int .u8 (fr / 256 % 256), .int .u8 (fr / 65536 % 256), .int .u8 (fr / 16777216 % 256), .int .u8 ((n : Int) % 256)] 5) _ HA2.out.lt)
  have hB3 := HB2.out.alloc HB2.out.size (Obj.cells #[.int .u8 (fr % 256), .int .u8 (fr / 256 % 256), .int .u8 (fr / 65536 % 256), .int .u8 (fr / 16777216 % 256), .int .u8 ((n : Int) % 256)] 5)
  have hTl : w.heap.size < w2.heap.size := HA2.out.lt
  have hTs : w2.heap.size ≤ (w2.alloc (Obj.cells #[.int .u8 (fr % 256), .int .u8 (fr / 256 % 256), .int .u8 (fr / 65536 % 256), .int .u8 (fr / 16777216 % 256), .int .u8 ((n : Int) % 256)] 5)).heap.size := by simp
  clear c0 c1 c1' HA2 HB2 hyes
  generalize w2.alloc (Obj.cells #[.int .u8 (fr % 256), .int .u8 (fr / 256 % 256), .int .u8 (fr / 65536 % 256), .int .u8 (fr / 16777216 % 256), .int .u8 ((n : Int) % 256)] 5) = w3 at *
  generalize w2.heap.size = T at *
  clear w2
  have HO := Lib.hid hO
  have HA := Lib.hid hA3
  have HB := Lib.hid hB3
  clear hO hA3 hB3
  go_loopw [4, 36] (fun v i wr => ∃ k : Nat, k ≤ n ∧ i = .int .i64 k ∧ OwnB wr T v (headB fr n ++ evsB E k) ∧ EntAt wr w.heap.size 0 fr (.slice a n cap) I ∧ Below w.heap.size w wr ∧ T ≤ wr.heap.size) (fun _ i _ => n - (intOf i).toNat)
  case atStart => exact ⟨0, by omega, rfl, HO.out, HA.out, HB.out, hTs⟩
  case round =>
    obtain ⟨k, hk, rfl, hO, hA, hB, hTs⟩ := hrel
    clear HO HA HB
    have HO := Lib.hid hO
    have HA := Lib.hid hA
    have HB := Lib.hid hB
    clear hO hA
    by_cases hlt : k < n
    · obtain ⟨b, o, rfl, hbl, hin⟩ := HEV.out (by omega)
      have he := hin.block (hB.block b hbl)
      have d0 := he.k k hlt
      have d1 := he.s k hlt
      have d2 := he.g k hlt
      have d3 := he.p k hlt
      have HN : Hid (evsB E (k + 1) = evsB E k ++ [E k 0 % 256, E k 1 % 256, E k 2 % 256, E k 2 / 256 % 256, E k 3 % 256]) := Lib.hid rfl
      have HL := Lib.hid (evsB_len E k)
      clear hB he hin
      generalize E k 0 = x0 at *
      generalize E k 1 = x1 at *
      generalize E k 2 = x2 at *
      generalize E k 3 = x3 at *
      have HBE := Lib.hid ((Below.refl T wr).alloc hTs (Obj.cells #[.int .i64 x0, .int .i64 x1, .int .i64 x2, .int .i64 x3] 43))
      go_wp2_with (at_builtin; refine step_app rfl (.tmp 40) (.tmp 57) rfl T _ (headB fr n ++ evsB E k) [x0 % 256, x1 % 256, x2 % 256, x2 / 256 % 256, x3 % 256] _ rfl (HO.out.below ((Below.refl wr.heap.size wr).alloc (Nat.le_refl _) (Obj.cells #[.int .i64 x0, .int .i64 x1, .int .i64 x2, .int .i64 x3] 43)) (Nat.le_refl _)) (Nat.le_trans hTs HBE.out.size) 5 (wr.heap.size + 1) (by simp) rfl rfl ?_ ?_)
      · rw [List.length_append, HL.out]; unfold headB; simp only [List.length_cons, List.length_nil]; omega
      intro v' w' hO' hb'
      try simp only [List.append_assoc] at hO'
      rw [← HN.out] at hO'
      have hB4 := HBE.out.trans hb'
      have HA4 := Lib.hid (HA.out.block (hB4.block _ hTl))
      have HB4 := Lib.hid (HB.out.trans (hB4.mono (by omega)))
      have HO4 := Lib.hid hO'
      have hTs4 := Nat.le_trans hTs (Nat.le_trans HBE.out.size hb'.size)
      clear hO' hb' hB4 HBE HO HA HB d0 d1 d2 d3 HN
      go_wp2_with fail
      all_goals first | exact ⟨⟨k + 1, by omega, by go_num, HO4.out, HA4.out, HB4.out, hTs4⟩, by simp [intOf]; omega⟩ | exact ⟨k + 1, by omega, by go_num, HO4.out, HA4.out, HB4.out, hTs4⟩ | (simp [intOf]; omega) | go_roundw
    · obtain rfl : k = n := by omega
      have HL := Lib.hid (evsB_len E k)
      obtain ⟨g, cp, rfl, hgT, hgl, hgc, hcpm⟩ := HO.out.form (by unfold headB; simp)
      have hlen : (headB fr k ++ evsB E k).length = 5 + 5 * k := by rw [List.length_append, HL.out]; rfl
      rw [hlen] at HO hgc ⊢
      go_wp2_with (at_builtin; refine step_app rfl (.tmp 62) (.tmp 63) rfl T _ (headB fr k ++ evsB E k) [0] _ rfl HO.out hTs 1 _ rfl rfl rfl (by rw [hlen]; omega) ?_)
      intro v' w' hO' hb'
      have hO2 : OwnB w' T v' (putS fr k E I 0) := hO'
      have HO2 := Lib.hid hO2
      have HA2 := Lib.hid (HA.out.block (hb'.block _ hTl))
      have HB2 := Lib.hid (HB.out.trans (hb'.mono (by omega)))
      have hTs2 := Nat.le_trans hTs hb'.size
      clear hO' hO2 hb' HO HA HB hlen hgT hgl hgc hcpm hB
      go_wp2_with (refine wpList_load_g (by rfl) 35 _ rfl w.heap.size 2 rfl _ _ HA2.out.inpRange0 Try.underlying35 rfl (size_inps _) ?_)
      go_loopw [4, 67] (fun v i wr => ∃ s : Nat, s ≤ 8 ∧ i = .int .i64 s ∧ OwnB wr T v (putS fr k E I s) ∧ Below w.heap.size w wr ∧ T ≤ wr.heap.size) (fun _ i _ => 8 - (intOf i).toNat)
      case atStart => exact ⟨0, by omega, rfl, HO2.out, HB2.out, hTs2⟩
      case round =>
        obtain ⟨s, hs, rfl, hO, hB, hTs⟩ := hrel
        clear HO2 HB2 HA2
        have HO := Lib.hid hO
        have HB := Lib.hid hB
        clear hO hB
        by_cases hlt : s < 8
        · obtain ⟨g, cp, rfl, hgT, hgl, hgc, hcpm⟩ := HO.out.form (by rw [putS_len]; omega)
          have hI := fun W => run_inp I s hlt W
          have hin : (5 + 5 * k : Int) < ((putS fr k E I s).length : Int) := by rw [putS_len]; omega
          have cm := HO.out.cell (5 + 5 * k) (by rw [putS_len]; omega)
          rw [putS_mask] at cm
          have cmo : ∀ o, (wr.alloc o).cell? ⟨g, 5 + 5 * k, none⟩ = some (.int .u8 (maskN I s)) := fun o => (World.cell?_of_block (Below.heap_alloc wr o g hgl)).trans cm
          have fmo : ∀ o, (wr.alloc o).frozen? ⟨g, 5 + 5 * k, none⟩ = false := fun o => (World.frozen?_of_block (Below.heap_alloc wr o g hgl)).trans (World.ownsRow.frozenAt HO.out _)
          generalize (putS fr k E I s).length = LL at *
          obtain ⟨x, hx'⟩ : ∃ x, I (s * 3) = x := ⟨_, rfl⟩
          obtain ⟨y, hy'⟩ : ∃ y, I (s * 3 + 1) = y := ⟨_, rfl⟩
          obtain ⟨z, hz'⟩ : ∃ z, I (s * 3 + 2) = z := ⟨_, rfl⟩
          simp only [hx', hy', hz'] at hI
          have hM := or_u8 (maskN I s) s (maskN_lt I s) hlt
          have HNZ : Hid (inpNZ I s = !(x == 0 && (y == 0 && z == 0))) := Lib.hid (by unfold inpNZ; rw [hx', hy', hz'])
          have HI3 : Hid (inp3 I s = [x % 256, y % 256, z]) := Lib.hid (by unfold inp3; rw [hx', hy', hz'])
          have HNext := Lib.hid (putS_next fr k E I s)
          have HSkip := Lib.hid (putS_skip fr k E I s)
          have HLe := Lib.hid (inpsB_len I s)
          have HSt : Hid (∀ M : Int, OwnB (wr.setCell ⟨g, 5 + 5 * k, none⟩ (.int .u8 M)) T (.slice (some ⟨g, 0, none⟩) LL cp) (headB fr k ++ (evsB E k ++ (M :: inpsB I s)))) := Lib.hid (fun M => by
            rw [← putS_setMask]; exact HO.out.stored (by rw [putS_len]; omega) _ M)
          clear hx' hy' hz' cm
          generalize ((maskN I s ||| 2 ^ s : Nat) : Int) = M at *
          rcases hx : (x == 0) with _ | _
          · have hnz : inpNZ I s = true := by rw [HNZ.out]; simp [hx]
            have hnx := HNext.out hnz
            rw [HI3.out] at hnx
            have HNX := Lib.hid hnx
            clear hnz hnx HNZ HI3 HNext HSkip
            have HBW := Lib.hid (((Below.refl T wr).setCell (p := ⟨g, 5 + 5 * k, none⟩) hgT (.int .u8 M)).alloc (by simpa using hTs) (Obj.cells #[.int .i8 x, .int .i8 y, .int .u8 z] 34))
            have HOW := Lib.hid ((HSt.out M).below ((Below.refl (wr.setCell ⟨g, 5 + 5 * k, none⟩ (.int .u8 M)).heap.size _).alloc (Nat.le_refl _) (Obj.cells #[.int .i8 x, .int .i8 y, .int .u8 z] 34)) (Nat.le_refl _))
            clear HSt HO
            go_wp2_with (at_builtin; refine step_app rfl (.tmp 83) (.tmp 92) rfl T _ (headB fr k ++ (evsB E k ++ (M :: inpsB I s))) [x % 256, y % 256, z] _ rfl HOW.out (Nat.le_trans hTs HBW.out.size) 3 (wr.heap.size + 1) (by simp) rfl rfl ?_ ?_)
            · have := HLe.out
              rw [List.length_append, List.length_append, HL.out, List.length_cons]; unfold headB; simp only [List.length_cons, List.length_nil]; omega
            intro v2 w3 hO2 hb2
            try simp only [List.append_assoc, List.cons_append] at hO2
            rw [← HNX.out] at hO2
            have hB5 := HBW.out.trans hb2
            have HB5 := Lib.hid (HB.out.trans (hB5.mono (by omega)))
            have HO5 := Lib.hid hO2
            have hTs5 := Nat.le_trans hTs hB5.size
            clear hO2 hb2 hB5 HBW HOW HB HNX HLe cmo fmo hI hM
            go_wp2_with fail
            all_goals first | exact ⟨⟨s + 1, by omega, by go_num, HO5.out, HB5.out, hTs5⟩, by simp [intOf]; omega⟩ | exact ⟨s + 1, by omega, by go_num, HO5.out, HB5.out, hTs5⟩ | (simp [intOf]; omega) | go_roundw
          obtain rfl := eq_of_beq hx
          rcases hy : (y == 0) with _ | _
          · have hnz : inpNZ I s = true := by rw [HNZ.out]; simp [hy]
            have hnx := HNext.out hnz
            rw [show inp3 I s = [0, y % 256, z] from HI3.out] at hnx
            have HNX := Lib.hid hnx
            clear hnz hnx HNZ HI3 HNext HSkip
            have HBW := Lib.hid (((Below.refl T wr).setCell (p := ⟨g, 5 + 5 * k, none⟩) hgT (.int .u8 M)).alloc (by simpa using hTs) (Obj.cells #[.int .i8 0, .int .i8 y, .int .u8 z] 34))
            have HOW := Lib.hid ((HSt.out M).below ((Below.refl (wr.setCell ⟨g, 5 + 5 * k, none⟩ (.int .u8 M)).heap.size _).alloc (Nat.le_refl _) (Obj.cells #[.int .i8 0, .int .i8 y, .int .u8 z] 34)) (Nat.le_refl _))
            clear HSt HO
            go_wp2_with (at_builtin; refine step_app rfl (.tmp 83) (.tmp 92) rfl T _ (headB fr k ++ (evsB E k ++ (M :: inpsB I s))) [0, y % 256, z] _ rfl HOW.out (Nat.le_trans hTs HBW.out.size) 3 (wr.heap.size + 1) (by simp) rfl rfl ?_ ?_)
            · have := HLe.out
              rw [List.length_append, List.length_append, HL.out, List.length_cons]; unfold headB; simp only [List.length_cons, List.length_nil]; omega
            intro v2 w3 hO2 hb2
            try simp only [List.append_assoc, List.cons_append] at hO2
            rw [← HNX.out] at hO2
            have hB5 := HBW.out.trans hb2
            have HB5 := Lib.hid (HB.out.trans (hB5.mono (by omega)))
            have HO5 := Lib.hid hO2
            have hTs5 := Nat.le_trans hTs hB5.size
            clear hO2 hb2 hB5 HBW HOW HB HNX HLe cmo fmo hI hM
            go_wp2_with fail
            all_goals first | exact ⟨⟨s + 1, by omega, by go_num, HO5.out, HB5.out, hTs5⟩, by simp [intOf]; omega⟩ | exact ⟨s + 1, by omega, by go_num, HO5.out, HB5.out, hTs5⟩ | (simp [intOf]; omega) | go_roundw
          obtain rfl := eq_of_beq hy
          rcases hz : (z == 0) with _ | _
          · have hnz : inpNZ I s = true := by rw [HNZ.out]; simp [hz]
            have hnx := HNext.out hnz
            rw [show inp3 I s = [0, 0, z] from HI3.out] at hnx
            have HNX := Lib.hid hnx
            clear hnz hnx HNZ HI3 HNext HSkip
            have HBW := Lib.hid (((Below.refl T wr).setCell (p := ⟨g, 5 + 5 * k, none⟩) hgT (.int .u8 M)).alloc (by simpa using hTs) (Obj.cells #[.int .i8 0, .int .i8 0, .int .u8 z] 34))
            have HOW := Lib.hid ((HSt.out M).below ((Below.refl (wr.setCell ⟨g, 5 + 5 * k, none⟩ (.int .u8 M)).heap.size _).alloc (Nat.le_refl _) (Obj.cells #[.int .i8 0, .int .i8 0, .int .u8 z] 34)) (Nat.le_refl _))
            clear HSt HO
            go_wp2_with (at_builtin; refine step_app rfl (.tmp 83) (.tmp 92) rfl T _ (headB fr k ++ (evsB E k ++ (M :: inpsB I s))) [0, 0, z] _ rfl HOW.out (Nat.le_trans hTs HBW.out.size) 3 (wr.heap.size + 1) (by simp) rfl rfl ?_ ?_)
            · have := HLe.out
              rw [List.length_append, List.length_append, HL.out, List.length_cons]; unfold headB; simp only [List.length_cons, List.length_nil]; omega
            intro v2 w3 hO2 hb2
            try simp only [List.append_assoc, List.cons_append] at hO2
            rw [← HNX.out] at hO2
            have hB5 := HBW.out.trans hb2
            have HB5 := Lib.hid (HB.out.trans (hB5.mono (by omega)))
            have HO5 := Lib.hid hO2
            have hTs5 := Nat.le_trans hTs hB5.size
            clear hO2 hb2 hB5 HBW HOW HB HNX HLe cmo fmo hI hM
            go_wp2_with fail
            all_goals first | exact ⟨⟨s + 1, by omega, by go_num, HO5.out, HB5.out, hTs5⟩, by simp [intOf]; omega⟩ | exact ⟨s + 1, by omega, by go_num, HO5.out, HB5.out, hTs5⟩ | (simp [intOf]; omega) | go_roundw
          obtain rfl := eq_of_beq hz
          have hnz : inpNZ I s = false := by rw [HNZ.out]; rfl
          have hO5 := HO.out.below ((Below.refl wr.heap.size wr).alloc (Nat.le_refl _) (Obj.cells #[.int .i8 0, .int .i8 0, .int .u8 0] 34)) (Nat.le_refl _)
          rw [← HSkip.out hnz] at hO5
          have HO5 := Lib.hid hO5
          have hTs5 : T ≤ (wr.alloc (Obj.cells #[.int .i8 0, .int .i8 0, .int .u8 0] 34)).heap.size := by simp; omega
          have HB5 := Lib.hid (HB.out.alloc HB.out.size (Obj.cells #[.int .i8 0, .int .i8 0, .int .u8 0] 34))
          clear hnz hO5 HNZ HI3 HNext HSkip HSt HO HB HLe cmo fmo hM
          go_wp2_with fail
          all_goals first | exact ⟨⟨s + 1, by omega, by go_num, HO5.out, HB5.out, hTs5⟩, by simp [intOf]; omega⟩ | exact ⟨s + 1, by omega, by go_num, HO5.out, HB5.out, hTs5⟩ | (simp [intOf]; omega) | go_roundw
        · obtain rfl : s = 8 := by omega
          go_wp2_with fail
          go_ret2
          exact ⟨⟨_, rfl, HO.out.mono (by omega)⟩, HB.out⟩
end Go.Proofs.Ytembppihfcclcaa
