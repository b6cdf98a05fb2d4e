/-
  Entry: the reference's PutEntry. Entry: the reference's reader. Wire: the reference's Num of up to eight bytes. Entry: the reference's reader, followed along the bytes. Wire: the check of bytes. Wire: a message as a row of cells; which parts a kind has; numbers between two.
-/
import Derived.Test.YtembppihfcclcaaX
import Derived.Test.YtembppihfcclcaaG07x
import Derived.Test.YtembppihfcclcaaG05x
import Derived.Lib.Bytes
namespace Go.Proofs.Ytembppihfcclcaa
set_option linter.unusedVariables false
open Go.ChangeShapes Go.WideShapes Go.ChangeAt Go.RowKit

set_option linter.unusedSimpArgs false
theorem num1 (v : Int) (hv : 0 ≤ v ∧ v < 18446744073709551616) (w : World) : Calls Try.prog 18 #[.int .u64 v, .int .i64 1] w fun e w' => e = .returned (.string (strOfNums [v % 256])) ∧ Below w.heap.size w w' := by
  have h := numR_any v 1 hv (by omega) w
  have e : leR v 1 = [v % 256] := by simp [leR]
  rw [e] at h
  exact h
theorem num2 (v : Int) (hv : 0 ≤ v ∧ v < 18446744073709551616) (w : World) : Calls Try.prog 18 #[.int .u64 v, .int .i64 2] w fun e w' => e = .returned (.string (strOfNums [v % 256, v / 256 % 256])) ∧ Below w.heap.size w w' := by
  have h := numR_any v 2 hv (by omega) w
  have e : leR v 2 = [v % 256, v / 256 % 256] := by simp [leR]
  rw [e] at h
  exact h
theorem num4 (v : Int) (hv : 0 ≤ v ∧ v < 18446744073709551616) (w : World) : Calls Try.prog 18 #[.int .u64 v, .int .i64 4] w fun e w' => e = .returned (.string (strOfNums [v % 256, v / 256 % 256, v / 65536 % 256, v / 16777216 % 256])) ∧ Below w.heap.size w w' := by
  have h := numR_any v 4 hv (by omega) w
  have e : leR v 4 = [v % 256, v / 256 % 256, v / 65536 % 256, v / 16777216 % 256] := by simp [leR]
  rw [e] at h
  exact h
theorem run_cat (la lb : List Int) (h : la.length + lb.length ≤ 1000000) (w : World) : (Op.stringOp .add (strOfNums la) (strOfNums lb)).run Try.prog w = .ok (.string (strOfNums (la ++ lb))) w := by
  rw [run_string_add_sum w _ _ (by rw [strOfNums_size, strOfNums_size]; omega), strOfNums_cat]
theorem or_i64 (a s : Nat) (ha : a < 2 ^ s) (hs : s < 8) : bits .or .i64 (a : Int) (wrap64 ((2 : Int) ^ s)) = ((a ||| 2 ^ s : Nat) : Int) := by
  have h0 : ∀ t : Nat, t < 8 → ∀ b : Nat, b < 2 ^ t → bits .or .i64 (b : Int) (wrap64 ((2 : Int) ^ t)) = ((b ||| 2 ^ t : Nat) : Int) := by
    decide +kernel
  exact h0 s hs a ha
set_option maxHeartbeats 400000 in
theorem putRef_any (fr : Int) (sv : Value) (n : Nat) (E : Nat → Nat → Int) (I : Nat → Int) (w : World) (hsv : EvsV w sv n E) (hb : EntB fr n E I) (hm : mayE fr n E I = true) :
    Calls Try.prog 56 #[.agg (entL fr sv I).toArray] w fun e w' => e = .returned (.string (strOfNums (putB fr n E I))) ∧ Below w.heap.size w w' := by
  have hfr := (mayE_parts hm).1
  have hn16 := mayE_le hm
  have HR := Lib.hid (evs_rank E n (mayE_parts hm).2.1)
  have HBI := Lib.hid hb.b
  obtain ⟨a, cap, rfl, hnc, hcm, hev⟩ := hsv
  unfold maxLen at hcm
  have HA := Lib.hid (entAt_new fr (.slice a n cap) I 37 w)
  have HB := Lib.hid ((Below.refl w.heap.size w).alloc (Nat.le_refl _) (Obj.cells (entL fr (.slice a n cap) I).toArray 37))
  have HEV := Lib.hid hev
  have HF : Hid (0 ≤ fr ∧ fr < 18446744073709551616) := Lib.hid ⟨hfr.1, by omega⟩
  have HNN : Hid (0 ≤ (n : Int) ∧ (n : Int) < 18446744073709551616) := Lib.hid ⟨by omega, by omega⟩
  clear hev hb hm
  go_enter Try.func56, Try.ntmps56
  go_wp2_with fail
  generalize w.alloc (Obj.cells (entL fr (.slice a n cap) I).toArray 37) = w1 at *
  have c0 := cell_regrown HA.out.z0
  have c1 := cell_regrown HA.out.z1
  have hfu : IntKind.u64.wrap fr = fr := by simp [IntKind.wrap, IntKind.bits, IntKind.signed]; omega
  have hcat := run_cat [fr % 256, fr / 256 % 256, fr / 65536 % 256, fr / 16777216 % 256] [(n : Int) % 256] (by simp)
  refine wp_region_quiet_below (by kernel_rfl) (by kernel_rfl) ?_
  iterate 4 (go_big_quiet_step (exact Calls.regrown_of (num4 fr HF.out _)))
  repeat (go_big_quiet_step (exact Calls.regrown_of (num1 n HNN.out _)))
  refine wpQuiet_nil ?_
  intro w10 hw'
  obtain ⟨⟨nq, osq⟩, hw3⟩ := hw'
  replace HB := Lib.hid (HB.out.trans ((below_regrown w1 nq osq).mono HB.out.size))
  replace HA := Lib.hid (HA.out.block ((below_regrown w1 nq osq).block _ HA.out.lt))
  rw [← hw3] at HA HB
  clear hw3 hcat c0 c1 hfu HF HNN
  go_wp2_with fail
  go_loopw [3, 4] (fun s i wr => ∃ k : Nat, k ≤ n ∧ i = .int .i64 k ∧ s = .string (strOfNums (headB fr n ++ evsB E k)) ∧ EntAt wr w.heap.size 0 fr (.slice a n cap) I ∧ Below w.heap.size w wr) (fun _ i _ => n - (intOf i).toNat)
  case atStart => exact ⟨0, by omega, rfl, rfl, HA.out, HB.out⟩
  case round =>
    obtain ⟨k, hk, rfl, rfl, hA, hB⟩ := hrel
    clear HA HB
    have HA := Lib.hid hA
    have HB := Lib.hid hB
    have c1 := hA.z1
    clear hA
    by_cases hlt : k < n
    · obtain ⟨b, o, rfl, hbl, hin⟩ := HEV.out (by omega)
      have he := hin.block (hB.block b hbl)
      have d0 := he.k k hlt
      have d1 := he.s k hlt
      have d2 := he.g k hlt
      have d3 := he.p k hlt
      have hki : (k : Int) < (n : Int) := by omega
      have hr := (HR.out k hlt).1
      have hl : (headB fr n ++ evsB E k).length ≤ 100 := by rw [List.length_append, evsB_len]; show 5 + _ ≤ _; omega
      have HN : Hid (headB fr n ++ evsB E (k + 1) = (headB fr n ++ evsB E k) ++ [E k 0 % 256, E k 1 % 256, E k 2 % 256, E k 2 / 256 % 256, E k 3 % 256]) := Lib.hid (by rw [List.append_assoc]; rfl)
      clear hB he hin
      generalize headB fr n ++ evsB E k = S at *
      generalize E k 0 = x0 at *
      generalize E k 1 = x1 at *
      generalize E k 2 = x2 at *
      generalize E k 3 = x3 at *
      obtain ⟨S1, h1⟩ : ∃ S1, S1 = S ++ [x0 % 256] := ⟨_, rfl⟩
      obtain ⟨S2, h2⟩ : ∃ S2, S2 = S1 ++ [x1 % 256] := ⟨_, rfl⟩
      obtain ⟨S3, h3⟩ : ∃ S3, S3 = S2 ++ [x2 % 256, x2 / 256 % 256] := ⟨_, rfl⟩
      obtain ⟨S4, h4⟩ : ∃ S4, S4 = S3 ++ [x3 % 256] := ⟨_, rfl⟩
      have HS4 : Hid (S4 = headB fr n ++ evsB E (k + 1)) := Lib.hid (by rw [HN.out, h4, h3, h2, h1]; simp)
      have l1 : S1.length = S.length + 1 := by rw [h1]; simp
      have l2 : S2.length = S.length + 2 := by rw [h2]; simp [l1]
      have l3 : S3.length = S.length + 4 := by rw [h3]; simp [l2]
      have t1 : ∀ W, (Op.stringOp .add (strOfNums S) (strOfNums [x0 % 256])).run Try.prog W = .ok (.string (strOfNums S1)) W := by rw [h1]; exact run_cat _ _ (by simp; omega)
      have t2 : ∀ W, (Op.stringOp .add (strOfNums S1) (strOfNums [x1 % 256])).run Try.prog W = .ok (.string (strOfNums S2)) W := by rw [h2]; exact run_cat _ _ (by simp; omega)
      have t3 : ∀ W, (Op.stringOp .add (strOfNums S2) (strOfNums [x2 % 256, x2 / 256 % 256])).run Try.prog W = .ok (.string (strOfNums S3)) W := by rw [h3]; exact run_cat _ _ (by simp; omega)
      have t4 : ∀ W, (Op.stringOp .add (strOfNums S3) (strOfNums [x3 % 256])).run Try.prog W = .ok (.string (strOfNums S4)) W := by rw [h4]; exact run_cat _ _ (by simp; omega)
      have u0 : IntKind.u64.wrap x0 = x0 := by simp [IntKind.wrap, IntKind.bits, IntKind.signed]; omega
      have u1 : IntKind.u64.wrap x1 = x1 := by simp [IntKind.wrap, IntKind.bits, IntKind.signed]; omega
      have u2 : IntKind.u64.wrap x2 = x2 := by simp [IntKind.wrap, IntKind.bits, IntKind.signed]; omega
      have u3 : IntKind.u64.wrap x3 = x3 := by simp [IntKind.wrap, IntKind.bits, IntKind.signed]; omega
      have r0 : Hid (0 ≤ x0 ∧ x0 < 18446744073709551616) := Lib.hid (by omega)
      have r1 : Hid (0 ≤ x1 ∧ x1 < 18446744073709551616) := Lib.hid (by omega)
      have r2 : Hid (0 ≤ x2 ∧ x2 < 18446744073709551616) := Lib.hid (by omega)
      have r3 : Hid (0 ≤ x3 ∧ x3 < 18446744073709551616) := Lib.hid (by omega)
      clear h1 h2 h3 h4 l1 l2 l3 hl HN hr
      have q0 := cell_regrown (show (wr.alloc (Obj.cells #[.int .i64 x0, .int .i64 x1, .int .i64 x2, .int .i64 x3] 43)).cell? ⟨wr.heap.size, 0, none⟩ = some (.int .i64 x0) by rw [World.cell?_alloc_new]; rfl)
      have q1 := cell_regrown (show (wr.alloc (Obj.cells #[.int .i64 x0, .int .i64 x1, .int .i64 x2, .int .i64 x3] 43)).cell? ⟨wr.heap.size, 1, none⟩ = some (.int .i64 x1) by rw [World.cell?_alloc_new]; rfl)
      have q2 := cell_regrown (show (wr.alloc (Obj.cells #[.int .i64 x0, .int .i64 x1, .int .i64 x2, .int .i64 x3] 43)).cell? ⟨wr.heap.size, 2, none⟩ = some (.int .i64 x2) by rw [World.cell?_alloc_new]; rfl)
      have q3 := cell_regrown (show (wr.alloc (Obj.cells #[.int .i64 x0, .int .i64 x1, .int .i64 x2, .int .i64 x3] 43)).cell? ⟨wr.heap.size, 3, none⟩ = some (.int .i64 x3) by rw [World.cell?_alloc_new]; rfl)
      replace HA := Lib.hid (HA.out.block (Below.heap_alloc wr (Obj.cells #[.int .i64 x0, .int .i64 x1, .int .i64 x2, .int .i64 x3] 43) w.heap.size HA.out.lt))
      replace HB := Lib.hid (HB.out.alloc HB.out.size (Obj.cells #[.int .i64 x0, .int .i64 x1, .int .i64 x2, .int .i64 x3] 43))
      go_wp2_with fail
      clear d0 d1 d2 d3
      generalize wr.alloc (Obj.cells #[.int .i64 x0, .int .i64 x1, .int .i64 x2, .int .i64 x3] 43) = w2 at *
      refine wp_region_quiet_below (by kernel_rfl) (by kernel_rfl) ?_
      iterate 5 (go_big_quiet_step (exact Calls.regrown_of (num1 x0 r0.out _)))
      iterate 5 (go_big_quiet_step (exact Calls.regrown_of (num1 x1 r1.out _)))
      iterate 5 (go_big_quiet_step (exact Calls.regrown_of (num2 x2 r2.out _)))
      iterate 5 (go_big_quiet_step (exact Calls.regrown_of (num1 x3 r3.out _)))
      repeat (go_big_quiet_step (fail))
      refine wpQuiet_nil ?_
      intro w11 hw'
      obtain ⟨⟨nq, osq⟩, hw3⟩ := hw'
      replace HB := Lib.hid (HB.out.trans ((below_regrown w2 nq osq).mono HB.out.size))
      replace HA := Lib.hid (HA.out.block ((below_regrown w2 nq osq).block _ HA.out.lt))
      rw [← hw3] at HA HB
      clear hw3 q0 q1 q2 q3 t1 t2 t3 t4 u0 u1 u2 u3 r0 r1 r2 r3
      go_wp2_with fail
      all_goals first | exact ⟨⟨k + 1, by omega, by go_num, by rw [HS4.out], HA.out, HB.out⟩, by simp [intOf]; omega⟩ | exact ⟨k + 1, by omega, by go_num, by rw [HS4.out], HA.out, HB.out⟩ | (simp [intOf]; omega) | go_roundw
    · obtain rfl : k = n := by omega
      clear hB
      go_wp2_with fail
      go_loopw [6, 7, 8] (fun m u i wr => ∃ s : Nat, s ≤ 8 ∧ i = .int .i64 s ∧ m = .int .i64 (maskN I s : Int) ∧ u = .string (strOfNums (inpsB I s)) ∧ EntAt wr w.heap.size 0 fr (.slice a k cap) I ∧ Below w.heap.size w wr) (fun _ _ i _ => 8 - (intOf i).toNat)
      case atStart => exact ⟨0, by omega, rfl, rfl, rfl, HA.out, HB.out⟩
      case round =>
        obtain ⟨s, hs, rfl, rfl, rfl, hA, hB⟩ := hrel
        clear HA HB c1
        have HA := Lib.hid hA
        have HB := Lib.hid hB
        clear hB
        by_cases hlt : s < 8
        · have d0 := hA.inps.x s hlt
          have d1 := hA.inps.y s hlt
          have d2 := hA.inps.z s hlt
          have hz : 0 ≤ I (s * 3 + 2) ∧ I (s * 3 + 2) ≤ 255 := HBI.out (s * 3 + 2) (by omega) (by omega)
          have HNZ : Hid (inpNZ I s = !(I (s * 3) == 0 && (I (s * 3 + 1) == 0 && I (s * 3 + 2) == 0))) := Lib.hid rfl
          have hlen := inpsB_len I s
          have HCat : Hid (inpNZ I s = true → ∀ W, (Op.stringOp .add (strOfNums (inpsB I s)) (strOfNums [I (s * 3) % 256, I (s * 3 + 1) % 256, I (s * 3 + 2)])).run Try.prog W = .ok (.string (strOfNums (inpsB I (s + 1)))) W) := Lib.hid (fun h W => by
            have e2 : inpsB I (s + 1) = inpsB I s ++ inp3 I s := by show (if inpNZ I s then _ else _) = _; rw [if_pos h]
            rw [e2]; exact run_cat _ _ (by simp; omega) W)
          have HMask : Hid (inpNZ I s = true → (maskN I s ||| 2 ^ s) = maskN I (s + 1)) := Lib.hid (fun h => by show _ = (if inpNZ I s then _ else _); rw [if_pos h])
          have HSk : Hid (inpNZ I s = false → inpsB I (s + 1) = inpsB I s ∧ maskN I (s + 1) = maskN I s) := Lib.hid (fun h => by exact ⟨by show (if inpNZ I s then _ else _) = _; rw [if_neg (by simp [h])], by show (if inpNZ I s then _ else _) = _; rw [if_neg (by simp [h])]⟩)
          have hor := or_i64 (maskN I s) s (maskN_lt I s) hlt
          clear hA hlen
          obtain ⟨S1, hS1⟩ : ∃ S1, S1 = inpsB I (s + 1) := ⟨_, rfl⟩
          rw [← hS1] at HCat HSk
          have HS1 := Lib.hid hS1
          clear hS1
          generalize I (s * 3) = x at *
          generalize I (s * 3 + 1) = y at *
          generalize I (s * 3 + 2) = z at *
          rcases hx : (x == 0) with _ | _
          · skip
            have hnz : inpNZ I s = true := by rw [HNZ.out]; simp [hx]
            have tc : ∀ W, (Op.stringOp .add (strOfNums (inpsB I s)) (strOfNums [x % 256, y % 256, z])).run Try.prog W = .ok (.string (strOfNums S1)) W := HCat.out hnz
            have HM1 := Lib.hid (HMask.out hnz)
            clear hnz HNZ HCat HMask HSk
            go_wp2_with fail
            refine (putInput_any x y z hz _).mono ?_
            rintro e wp ⟨rfl, hb⟩
            replace HB := Lib.hid (HB.out.trans (hb.mono HB.out.size))
            replace HA := Lib.hid (HA.out.block (hb.block _ HA.out.lt))
            clear hb
            go_wp2_with fail
            exact ⟨⟨s + 1, by omega, rfl, by rw [← HM1.out], by rw [HS1.out], HA.out, HB.out⟩, by show 8 - (s + 1) < 8 - s; omega⟩
          obtain rfl := eq_of_beq hx
          rcases hy : (y == 0) with _ | _
          · skip
            have hnz : inpNZ I s = true := by rw [HNZ.out]; simp [hy]
            have tc : ∀ W, (Op.stringOp .add (strOfNums (inpsB I s)) (strOfNums [0, y % 256, z])).run Try.prog W = .ok (.string (strOfNums S1)) W := HCat.out hnz
            have HM1 := Lib.hid (HMask.out hnz)
            clear hnz HNZ HCat HMask HSk
            go_wp2_with fail
            refine (putInput_any 0 y z hz _).mono ?_
            rintro e wp ⟨rfl, hb⟩
            replace HB := Lib.hid (HB.out.trans (hb.mono HB.out.size))
            replace HA := Lib.hid (HA.out.block (hb.block _ HA.out.lt))
            clear hb
            go_wp2_with fail
            exact ⟨⟨s + 1, by omega, rfl, by rw [← HM1.out], by rw [HS1.out], HA.out, HB.out⟩, by show 8 - (s + 1) < 8 - s; omega⟩
          obtain rfl := eq_of_beq hy
          rcases hzz : (z == 0) with _ | _
          · skip
            have hnz : inpNZ I s = true := by rw [HNZ.out]; simp [hzz]
            have tc : ∀ W, (Op.stringOp .add (strOfNums (inpsB I s)) (strOfNums [0, 0, z])).run Try.prog W = .ok (.string (strOfNums S1)) W := HCat.out hnz
            have HM1 := Lib.hid (HMask.out hnz)
            clear hnz HNZ HCat HMask HSk
            go_wp2_with fail
            refine (putInput_any 0 0 z hz _).mono ?_
            rintro e wp ⟨rfl, hb⟩
            replace HB := Lib.hid (HB.out.trans (hb.mono HB.out.size))
            replace HA := Lib.hid (HA.out.block (hb.block _ HA.out.lt))
            clear hb
            go_wp2_with fail
            exact ⟨⟨s + 1, by omega, rfl, by rw [← HM1.out], by rw [HS1.out], HA.out, HB.out⟩, by show 8 - (s + 1) < 8 - s; omega⟩
          obtain rfl := eq_of_beq hzz
          have hnz : inpNZ I s = false := by rw [HNZ.out]; rfl
          have HS2 := Lib.hid (HSk.out hnz)
          clear hnz HNZ HCat HMask HSk
          go_wp2_with fail
          exact ⟨⟨s + 1, by omega, rfl, by rw [HS2.out.2], by rw [← HS2.out.1, HS1.out], HA.out, HB.out⟩, by show 8 - (s + 1) < 8 - s; omega⟩
        · obtain rfl : s = 8 := by omega
          have hmk := maskN_lt I 8
          have hlen := inpsB_len I 8
          have um : IntKind.u64.wrap (maskN I 8 : Int) = (maskN I 8 : Int) := by simp [IntKind.wrap, IntKind.bits, IntKind.signed]; omega
          have HF : Hid (0 ≤ (maskN I 8 : Int) ∧ (maskN I 8 : Int) < 18446744073709551616) := Lib.hid (by omega)
          have hm : (maskN I 8 : Int) % 256 = (maskN I 8 : Int) := by omega
          obtain ⟨S0, h0⟩ : ∃ S, S = headB fr k ++ evsB E k := ⟨_, rfl⟩
          obtain ⟨S1, h1⟩ : ∃ S, S = S0 ++ [(maskN I 8 : Int)] := ⟨_, rfl⟩
          have l0 : S0.length ≤ 100 := by rw [h0, List.length_append, evsB_len]; show 5 + _ ≤ _; omega
          have t1 : ∀ W, (Op.stringOp .add (strOfNums S0) (strOfNums [(maskN I 8 : Int)])).run Try.prog W = .ok (.string (strOfNums S1)) W := by rw [h1]; exact run_cat _ _ (by simp; omega)
          have t2 : ∀ W, (Op.stringOp .add (strOfNums S1) (strOfNums (inpsB I 8))).run Try.prog W = .ok (.string (strOfNums (putB fr k E I))) W := by
            have : putB fr k E I = S1 ++ inpsB I 8 := by rw [h1, h0]; unfold putB putS; simp
            rw [this]; exact run_cat _ _ (by rw [h1]; simp; omega)
          rw [← h0]
          clear hA h0 h1 hlen hmk l0
          generalize (maskN I 8 : Int) = M at *
          go_wp2_with fail
          refine (num1 M HF.out _).mono ?_
          rintro e wp ⟨rfl, hb⟩
          rw [hm]
          replace HB := Lib.hid (HB.out.trans (hb.mono HB.out.size))
          clear hb
          go_wp2_with fail
          go_ret
          exact ⟨rfl, HB.out⟩
end Go.Proofs.Ytembppihfcclcaa

namespace Go.Proofs.Ytembppihfcclcaa
set_option linter.unusedVariables false
open Go.ChangeShapes Go.WideShapes Go.ChangeAt Go.RowKit

set_option linter.unusedSimpArgs false
/-- The reader at block R: what is left, and whether it went wrong. -/
structure RG (w : World) (R : Nat) (l : List Int) (bad : Bool) : Prop where
  c0 : w.cell? ⟨R, 0, none⟩ = some (.string (strOfNums l))
  c1 : w.cell? ⟨R, 1, none⟩ = some (.bool bad)
  f0 : w.frozen? ⟨R, 0, none⟩ = false
  f1 : w.frozen? ⟨R, 1, none⟩ = false
theorem RG.block {w w' : World} {R : Nat} {l : List Int} {bad : Bool} (h : RG w R l bad) (k : w'.heap[R]? = w.heap[R]?) : RG w' R l bad :=
  ⟨(World.cell?_of_block k).trans h.c0, (World.cell?_of_block k).trans h.c1, (World.frozen?_of_block k).trans h.f0, (World.frozen?_of_block k).trans h.f1⟩
theorem RG.lt {w : World} {R : Nat} {l : List Int} {bad : Bool} (h : RG w R l bad) : R < w.heap.size := block_of_cell h.c0
def hvv (l : List Int) : Nat → Nat → Int
  | 0, _ => 0
  | m + 1, k => hvv l m (k + 1) * 256 + zz l k
theorem hvv_bd {l : List Int} (h : ByteL l) : ∀ m k, 0 ≤ hvv l m k ∧ hvv l m k < 256 ^ m
  | 0, k => ⟨Int.le_refl _, by show (0 : Int) < 1; omega⟩
  | m + 1, k => by
    have h1 := hvv_bd h m (k + 1)
    have h2 := h k
    show 0 ≤ hvv l m (k + 1) * 256 + zz l k ∧ hvv l m (k + 1) * 256 + zz l k < _
    rw [Int.pow_succ]
    omega
theorem or_u64 (a b : Int) (ha : 0 ≤ a ∧ a < 4294967296) (hb : 0 ≤ b ∧ b < 256) : bits .or .u64 (IntKind.u64.wrap (a * 256)) b = a * 256 + b := by
  obtain ⟨x, rfl⟩ : ∃ x : Nat, a = x := ⟨a.toNat, by omega⟩
  obtain ⟨y, rfl⟩ : ∃ y : Nat, b = y := ⟨b.toNat, by omega⟩
  have e : IntKind.u64.wrap ((x : Int) * 256) = ((x * 256 : Nat) : Int) := by simp [IntKind.wrap, IntKind.bits, IntKind.signed]; omega
  rw [e, (bits_nat .u64 62 (by decide) (fun n h0 h1 => by simp [IntKind.wrap, IntKind.bits, IntKind.signed]; omega) (x * 256) y (by omega) (by omega)).2]
  have e2 : x * 256 ||| y = x * 256 + y := by
    have := Nat.two_pow_add_eq_or_of_lt (i := 8) (b := y) (by omega) x
    rw [Nat.mul_comm x 256]
    exact this.symm
  rw [e2]
  omega
theorem str_get (l : List Int) (hby : ByteL l) (i : Nat) (h : i < (strOfNums l).size) : (((strOfNums l)[i]'h).toNat : Int) = zz l i := by
  have hl : i < l.length := by rwa [strOfNums_size] at h
  have hz := hby i
  have e : ((strOfNums l)[i]'h) = UInt8.ofNat (zz l i).toNat := by
    have e1 : zz l i = l[i] := by unfold zz; simp [List.getD_eq_getElem?_getD, hl]
    rw [e1]
    show ((l.map fun n => UInt8.ofNat n.toNat).toArray)[i]'(by simpa using hl) = _
    rw [List.getElem_toArray, List.getElem_map]
  rw [e, UInt8.toNat_ofNat']
  omega
theorem str_drop (l : List Int) (n : Nat) : (strOfNums l).extract n (strOfNums l).size = strOfNums (l.drop n) := by
  apply ByteArray.ext
  rw [strOfNums_size]
  simp [strOfNums]
  rw [List.take_of_length_le (by simp)]
theorem Only.below' {R : Nat} {w w' : World} (h : Only R w w') : ∀ k, k ≠ R → w'.heap[k]? = w.heap[k]? := h.block
set_option maxHeartbeats 1000000 in
theorem rNum_bad (R : Nat) (l : List Int) (bad : Bool) (n : Nat) (hn : 0 < n ∧ n ≤ 4) (w : World) (h : RG w R l bad) (hb : bad = true ∨ l.length < n) :
    Calls Try.prog 46 #[.pointer (some ⟨R, 0, none⟩), .int .i64 n] w fun e w' => e = .returned (.int .u64 0) ∧ RG w' R [] true ∧ Only R w w' := by
  have c0 := h.c0
  have c1 := h.c1
  have f0 := h.f0
  have f1 := h.f1
  have hsz : ((strOfNums l).size : Int) = l.length := by rw [strOfNums_size]
  have s1 : ∀ u v, ((w.setCell ⟨R, 1, none⟩ u).setCell ⟨R, 0, none⟩ v).cell? ⟨R, 0, none⟩ = some v := fun u v => World.cell?_setCell_same _ _ _ ((World.cell?_setCell_other _ _ _ _ (by simp)).trans c0)
  have s2 : ∀ u v, ((w.setCell ⟨R, 1, none⟩ u).setCell ⟨R, 0, none⟩ v).cell? ⟨R, 1, none⟩ = some u := fun u v => (World.cell?_setCell_other _ _ _ _ (by simp)).trans (World.cell?_setCell_same _ _ _ c1)
  have hr : RG ((w.setCell ⟨R, 1, none⟩ (.bool true)).setCell ⟨R, 0, none⟩ (.string ⟨#[]⟩)) R [] true := ⟨s1 _ _, s2 _ _, by rw [World.frozen?_setCell, World.frozen?_setCell]; exact f0, by rw [World.frozen?_setCell, World.frozen?_setCell]; exact f1⟩
  have ho : Only R w ((w.setCell ⟨R, 1, none⟩ (.bool true)).setCell ⟨R, 0, none⟩ (.string ⟨#[]⟩)) := ((Only.refl R w).setCell rfl _).setCell rfl _
  clear s1 s2
  cases bad with
  | true =>
    go_enter Try.func46, Try.ntmps46
    go_wp2_with fail
    go_ret
    exact ⟨rfl, hr, ho⟩
  | false =>
    have hl : ((strOfNums l).size : Int) < (n : Int) := by rw [hsz]; rcases hb with h | h; cases h; omega
    go_enter Try.func46, Try.ntmps46
    go_wp2_with fail
    go_ret
    exact ⟨rfl, hr, ho⟩
set_option maxHeartbeats 1000000 in
theorem rNum_good (R : Nat) (l : List Int) (n : Nat) (hn : 0 < n ∧ n ≤ 4) (w : World) (h : RG w R l false) (hby : ByteL l) (hl : n ≤ l.length) (hlm : l.length ≤ 1000000) :
    Calls Try.prog 46 #[.pointer (some ⟨R, 0, none⟩), .int .i64 n] w fun e w' => e = .returned (.int .u64 (hvv l n 0)) ∧ RG w' R (l.drop n) false ∧ Only R w w' := by
  have c0 := h.c0
  have c1 := h.c1
  have hsz : ((strOfNums l).size : Int) = l.length := by rw [strOfNums_size]
  have hl : ¬ ((strOfNums l).size : Int) < (n : Int) := by rw [hsz]; omega
  go_enter Try.func46, Try.ntmps46
  go_wp2_with fail
  clear c0 c1
  go_loopw [5, 6] (fun v i wr => ∃ k : Nat, k ≤ n ∧ i = .int .i64 ((k : Int) - 1) ∧ v = .int .u64 (hvv l (n - k) k) ∧ wr = w) (fun _ i _ => (intOf i + 1).toNat)
  case atStart => exact ⟨n, by omega, by go_num, by rw [Nat.sub_self]; rfl, rfl⟩
  case round =>
    obtain ⟨k, hk, rfl, rfl, rfl⟩ := hrel
    have c0 := h.c0
    by_cases hk0 : 0 < k
    · have hki : (0 : Int) ≤ (k : Int) - 1 := by omega
      have hbd := hvv_bd hby (n - k) k
      have hpw : (256 : Int) ^ (n - k) ≤ 16777216 := by
        rcases (by omega : n - k = 0 ∨ n - k = 1 ∨ n - k = 2 ∨ n - k = 3) with e | e | e | e <;> rw [e] <;> decide
      have hz := hby (k - 1)
      have hor := or_u64 (hvv l (n - k) k) (zz l (k - 1)) (by omega) hz
      have hH : hvv l (n - (k - 1)) (k - 1) = hvv l (n - k) k * 256 + zz l (k - 1) := by
        rw [show n - (k - 1) = (n - k) + 1 by omega]
        show hvv l (n - k) (k - 1 + 1) * 256 + _ = _
        rw [show k - 1 + 1 = k by omega]
      have HH := Lib.hid hH
      have HOR := Lib.hid hor
      have HG := Lib.hid (fun h => str_get l hby (k - 1) h)
      have HU := Lib.hid (IntWalk.u64_in (zz l (k - 1)) (by omega))
      clear hbd hpw hz hor hH
      go_wp2_with fail
      refine ⟨⟨k - 1, by omega, by congr 1; omega, ?_, trivial⟩, by simp [intOf]; omega⟩
      rw [HG.out, HU.out, HOR.out, HH.out]
    · obtain rfl : k = 0 := by omega
      have f0 := h.f0
      have hr : RG (wr.setCell ⟨R, 0, none⟩ (.string (strOfNums (l.drop n)))) R (l.drop n) false := ⟨World.cell?_setCell_same _ _ _ c0, (World.cell?_setCell_other _ _ _ _ (by simp)).trans h.c1, by rw [World.frozen?_setCell]; exact h.f0, by rw [World.frozen?_setCell]; exact h.f1⟩
      have ho : Only R wr (wr.setCell ⟨R, 0, none⟩ (.string (strOfNums (l.drop n)))) := (Only.refl R wr).setCell rfl _
      have hd := str_drop l n
      go_wp2_with fail
      go_ret
      exact ⟨rfl, by first | exact hr | (rw [hd]; exact hr), by first | exact ho | (rw [hd]; exact ho)⟩
end Go.Proofs.Ytembppihfcclcaa

namespace Go.Proofs.Ytembppihfcclcaa
set_option linter.unusedVariables false
open Go.ChangeShapes Go.WideShapes Go.ChangeAt Go.RowKit

set_option linter.unusedSimpArgs false
set_option maxHeartbeats 1000000 in
theorem numR8_any (v : Int) (n : Nat) (hv : 0 ≤ v ∧ v < 18446744073709551616) (hn : 0 < n ∧ n ≤ 8) (w : World) :
    Calls Try.prog 18 #[.int .u64 v, .int .i64 n] w fun e w' => e = .returned (.string (strOfNums (leR v n))) ∧ Below w.heap.size w w' := by
  have hO : OwnB w w.heap.size (.slice none 0 0) (leR v 0) := World.ownsRow_nil _ _ _ _
  go_enter Try.func18, Try.ntmps18
  go_wp2_with fail
  go_loopw [5, 6] (fun o i wr => ∃ k : Nat, k ≤ n ∧ i = .int .i64 k ∧ OwnB wr w.heap.size o (leR v k) ∧ Below w.heap.size w wr) (fun _ i _ => n - (intOf i).toNat)
  case atStart => exact ⟨0, by omega, rfl, hO, Below.refl _ _⟩
  case round =>
    obtain ⟨k, hk, rfl, hO, hB⟩ := hrel
    have HO := Lib.hid hO
    have HB := Lib.hid hB
    clear hO
    by_cases hlt : k < n
    · have hki : (k : Int) < (n : Int) := by omega
      have hsz := hB.size
      clear hB
      have HN : Hid (leR v (k + 1) = leR v k ++ [v / 2 ^ (8 * k) % 256]) := Lib.hid rfl
      have hl : (leR v k).length + 1 ≤ 140737488355328 := by rw [leR_len]; omega
      go_wp2_with (at_builtin; refine step_app rfl (.tmp 12) (.tmp 19) rfl w.heap.size _ (leR v k) [v / 2 ^ (8 * k) % 256] wr rfl HO.out hsz 1 _ rfl rfl rfl hl ?_)
      intro v' w' hO' hb'
      rw [← HN.out] at hO'
      have HO2 := Lib.hid hO'
      have HB2 := Lib.hid (HB.out.trans hb')
      clear hO' hb' HO HB HN hl hsz
      go_wp2_with fail
      all_goals first | exact ⟨⟨k + 1, by omega, by go_num, HO2.out, HB2.out⟩, by simp [intOf]; omega⟩ | exact ⟨k + 1, by omega, by go_num, HO2.out, HB2.out⟩ | (simp [intOf]; omega) | go_roundw
    · obtain rfl : k = n := by omega
      have hc := conv_bytes (HO.out.bytes (by rw [leR_len]; omega)) (by rw [leR_len]; omega)
      clear hB
      go_wp2_with fail
      go_ret
      exact ⟨rfl, HB.out⟩
theorem or_u64w (a b : Int) (ha : 0 ≤ a ∧ a < 72057594037927936) (hb : 0 ≤ b ∧ b < 256) : bits .or .u64 (IntKind.u64.wrap (a * 256)) b = a * 256 + b := by
  obtain ⟨x, rfl⟩ : ∃ x : Nat, a = x := ⟨a.toNat, by omega⟩
  obtain ⟨y, rfl⟩ : ∃ y : Nat, b = y := ⟨b.toNat, by omega⟩
  have e : IntKind.u64.wrap ((x : Int) * 256) = ((x * 256 : Nat) : Int) := by simp [IntKind.wrap, IntKind.bits, IntKind.signed]; omega
  rw [e, (bits_nat .u64 64 (by decide) (fun n h0 h1 => by simp [IntKind.wrap, IntKind.bits, IntKind.signed]; omega) (x * 256) y (by omega) (by omega)).2]
  have e2 : x * 256 ||| y = x * 256 + y := by
    have := Nat.two_pow_add_eq_or_of_lt (i := 8) (b := y) (by omega) x
    rw [Nat.mul_comm x 256]
    exact this.symm
  rw [e2]
  omega
set_option maxHeartbeats 1000000 in
theorem rNum8_good (R : Nat) (l : List Int) (n : Nat) (hn : 0 < n ∧ n ≤ 8) (w : World) (h : RG w R l false) (hby : ByteL l) (hl : n ≤ l.length) (hlm : l.length ≤ 1000000) :
    Calls Try.prog 46 #[.pointer (some ⟨R, 0, none⟩), .int .i64 n] w fun e w' => e = .returned (.int .u64 (hvv l n 0)) ∧ RG w' R (l.drop n) false ∧ Only R w w' := by
  have c0 := h.c0
  have c1 := h.c1
  have hsz : ((strOfNums l).size : Int) = l.length := by rw [strOfNums_size]
  have hl : ¬ ((strOfNums l).size : Int) < (n : Int) := by rw [hsz]; omega
  go_enter Try.func46, Try.ntmps46
  go_wp2_with fail
  clear c0 c1
  go_loopw [5, 6] (fun v i wr => ∃ k : Nat, k ≤ n ∧ i = .int .i64 ((k : Int) - 1) ∧ v = .int .u64 (hvv l (n - k) k) ∧ wr = w) (fun _ i _ => (intOf i + 1).toNat)
  case atStart => exact ⟨n, by omega, by go_num, by rw [Nat.sub_self]; rfl, rfl⟩
  case round =>
    obtain ⟨k, hk, rfl, rfl, rfl⟩ := hrel
    have c0 := h.c0
    by_cases hk0 : 0 < k
    · have hki : (0 : Int) ≤ (k : Int) - 1 := by omega
      have hbd := hvv_bd hby (n - k) k
      have hpw : (256 : Int) ^ (n - k) ≤ 72057594037927936 := by
        rcases (by omega : n - k = 0 ∨ n - k = 1 ∨ n - k = 2 ∨ n - k = 3 ∨ n - k = 4 ∨ n - k = 5 ∨ n - k = 6 ∨ n - k = 7) with e | e | e | e | e | e | e | e <;> rw [e] <;> decide
      have hz := hby (k - 1)
      have hor := or_u64w (hvv l (n - k) k) (zz l (k - 1)) (by omega) hz
      have hH : hvv l (n - (k - 1)) (k - 1) = hvv l (n - k) k * 256 + zz l (k - 1) := by
        rw [show n - (k - 1) = (n - k) + 1 by omega]
        show hvv l (n - k) (k - 1 + 1) * 256 + _ = _
        rw [show k - 1 + 1 = k by omega]
      have HH := Lib.hid hH
      have HOR := Lib.hid hor
      have HG := Lib.hid (fun h => str_get l hby (k - 1) h)
      have HU := Lib.hid (IntWalk.u64_in (zz l (k - 1)) (by omega))
      clear hbd hpw hz hor hH
      go_wp2_with fail
      refine ⟨⟨k - 1, by omega, by congr 1; omega, ?_, trivial⟩, by simp [intOf]; omega⟩
      rw [HG.out, HU.out, HOR.out, HH.out]
    · obtain rfl : k = 0 := by omega
      have f0 := h.f0
      have hr : RG (wr.setCell ⟨R, 0, none⟩ (.string (strOfNums (l.drop n)))) R (l.drop n) false := ⟨World.cell?_setCell_same _ _ _ c0, (World.cell?_setCell_other _ _ _ _ (by simp)).trans h.c1, by rw [World.frozen?_setCell]; exact h.f0, by rw [World.frozen?_setCell]; exact h.f1⟩
      have ho : Only R wr (wr.setCell ⟨R, 0, none⟩ (.string (strOfNums (l.drop n)))) := (Only.refl R wr).setCell rfl _
      have hd := str_drop l n
      go_wp2_with fail
      go_ret
      exact ⟨rfl, by first | exact hr | (rw [hd]; exact hr), by first | exact ho | (rw [hd]; exact ho)⟩
set_option maxHeartbeats 1000000 in
theorem rNum8_bad (R : Nat) (l : List Int) (bad : Bool) (n : Nat) (hn : n ≤ 1000000) (w : World) (h : RG w R l bad) (hb : bad = true ∨ l.length < n) :
    Calls Try.prog 46 #[.pointer (some ⟨R, 0, none⟩), .int .i64 n] w fun e w' => e = .returned (.int .u64 0) ∧ RG w' R [] true ∧ Only R w w' := by
  have c0 := h.c0
  have c1 := h.c1
  have f0 := h.f0
  have f1 := h.f1
  have hsz : ((strOfNums l).size : Int) = l.length := by rw [strOfNums_size]
  have s1 : ∀ u v, ((w.setCell ⟨R, 1, none⟩ u).setCell ⟨R, 0, none⟩ v).cell? ⟨R, 0, none⟩ = some v := fun u v => World.cell?_setCell_same _ _ _ ((World.cell?_setCell_other _ _ _ _ (by simp)).trans c0)
  have s2 : ∀ u v, ((w.setCell ⟨R, 1, none⟩ u).setCell ⟨R, 0, none⟩ v).cell? ⟨R, 1, none⟩ = some u := fun u v => (World.cell?_setCell_other _ _ _ _ (by simp)).trans (World.cell?_setCell_same _ _ _ c1)
  have hr : RG ((w.setCell ⟨R, 1, none⟩ (.bool true)).setCell ⟨R, 0, none⟩ (.string ⟨#[]⟩)) R [] true := ⟨s1 _ _, s2 _ _, by rw [World.frozen?_setCell, World.frozen?_setCell]; exact f0, by rw [World.frozen?_setCell, World.frozen?_setCell]; exact f1⟩
  have ho : Only R w ((w.setCell ⟨R, 1, none⟩ (.bool true)).setCell ⟨R, 0, none⟩ (.string ⟨#[]⟩)) := ((Only.refl R w).setCell rfl _).setCell rfl _
  clear s1 s2
  cases bad with
  | true =>
    go_enter Try.func46, Try.ntmps46
    go_wp2_with fail
    go_ret
    exact ⟨rfl, hr, ho⟩
  | false =>
    have hl : ((strOfNums l).size : Int) < (n : Int) := by rw [hsz]; rcases hb with h | h; cases h; omega
    go_enter Try.func46, Try.ntmps46
    go_wp2_with fail
    go_ret
    exact ⟨rfl, hr, ho⟩
theorem str_take (l : List Int) (n : Nat) : (strOfNums l).extract 0 n = strOfNums (l.take n) := by
  apply ByteArray.ext
  simp [strOfNums]
set_option maxHeartbeats 1000000 in
theorem rSome_good (R : Nat) (l : List Int) (n : Nat) (w : World) (h : RG w R l false) (hl : n ≤ l.length) (hlm : l.length ≤ 1000000) :
    Calls Try.prog 62 #[.pointer (some ⟨R, 0, none⟩), .int .i64 n] w fun e w' => e = .returned (.string (strOfNums (l.take n))) ∧ RG w' R (l.drop n) false ∧ Only R w w' := by
  have c0 := h.c0
  have c1 := h.c1
  have f0 := h.f0
  have hsz : ((strOfNums l).size : Int) = l.length := by rw [strOfNums_size]
  have hl : ¬ ((strOfNums l).size : Int) < (n : Int) := by rw [hsz]; omega
  have hr : RG (w.setCell ⟨R, 0, none⟩ (.string (strOfNums (l.drop n)))) R (l.drop n) false := ⟨World.cell?_setCell_same _ _ _ c0, (World.cell?_setCell_other _ _ _ _ (by simp)).trans h.c1, by rw [World.frozen?_setCell]; exact h.f0, by rw [World.frozen?_setCell]; exact h.f1⟩
  have ho : Only R w (w.setCell ⟨R, 0, none⟩ (.string (strOfNums (l.drop n)))) := (Only.refl R w).setCell rfl _
  have hd := str_drop l n
  have ht := str_take l n
  go_enter Try.func62, Try.ntmps62
  go_wp2_with fail
  go_ret
  exact ⟨by first | rfl | (rw [← ht]; rfl), by first | exact hr | (rw [hd]; exact hr), by first | exact ho | (rw [hd]; exact ho)⟩
set_option maxHeartbeats 1000000 in
theorem rSome_bad (R : Nat) (l : List Int) (bad : Bool) (n : Int) (w : World) (h : RG w R l bad) (hb : bad = true ∨ (l.length : Int) < n) :
    Calls Try.prog 62 #[.pointer (some ⟨R, 0, none⟩), .int .i64 n] w fun e w' => e = .returned (.string (strOfNums [])) ∧ RG w' R [] true ∧ Only R w w' := by
  have c0 := h.c0
  have c1 := h.c1
  have f0 := h.f0
  have f1 := h.f1
  have hsz : ((strOfNums l).size : Int) = l.length := by rw [strOfNums_size]
  have s1 : ∀ u v, ((w.setCell ⟨R, 1, none⟩ u).setCell ⟨R, 0, none⟩ v).cell? ⟨R, 0, none⟩ = some v := fun u v => World.cell?_setCell_same _ _ _ ((World.cell?_setCell_other _ _ _ _ (by simp)).trans c0)
  have s2 : ∀ u v, ((w.setCell ⟨R, 1, none⟩ u).setCell ⟨R, 0, none⟩ v).cell? ⟨R, 1, none⟩ = some u := fun u v => (World.cell?_setCell_other _ _ _ _ (by simp)).trans (World.cell?_setCell_same _ _ _ c1)
  have hr : RG ((w.setCell ⟨R, 1, none⟩ (.bool true)).setCell ⟨R, 0, none⟩ (.string ⟨#[]⟩)) R [] true := ⟨s1 _ _, s2 _ _, by rw [World.frozen?_setCell, World.frozen?_setCell]; exact f0, by rw [World.frozen?_setCell, World.frozen?_setCell]; exact f1⟩
  have ho : Only R w ((w.setCell ⟨R, 1, none⟩ (.bool true)).setCell ⟨R, 0, none⟩ (.string ⟨#[]⟩)) := ((Only.refl R w).setCell rfl _).setCell rfl _
  clear s1 s2
  cases bad with
  | true =>
    go_enter Try.func62, Try.ntmps62
    go_wp2_with fail
    go_ret
    exact ⟨rfl, hr, ho⟩
  | false =>
    have hl : ((strOfNums l).size : Int) < n := by rw [hsz]; rcases hb with h | h; cases h; omega
    go_enter Try.func62, Try.ntmps62
    go_wp2_with fail
    go_ret
    exact ⟨rfl, hr, ho⟩
end Go.Proofs.Ytembppihfcclcaa

namespace Go.Proofs.Ytembppihfcclcaa
set_option linter.unusedVariables false
open Go.ChangeShapes Go.WideShapes Go.ChangeAt Go.RowKit

set_option linter.unusedSimpArgs false
/-- Of what was there, only block R may have changed. -/
structure Rd (R : Nat) (w w' : World) : Prop where
  os : w'.os = w.os
  tape : w'.tape = w.tape
  output : w'.output = w.output
  size : w.heap.size ≤ w'.heap.size
  block : ∀ k, k < w.heap.size → k ≠ R → w'.heap[k]? = w.heap[k]?
theorem Rd.refl (R : Nat) (w : World) : Rd R w w := ⟨rfl, rfl, rfl, Nat.le_refl _, fun _ _ _ => rfl⟩
theorem Rd.trans {R : Nat} {x y z : World} (h : Rd R x y) (k : Rd R y z) : Rd R x z :=
  ⟨k.os.trans h.os, k.tape.trans h.tape, k.output.trans h.output, Nat.le_trans h.size k.size, fun i hi hr => (k.block i (Nat.lt_of_lt_of_le hi h.size) hr).trans (h.block i hi hr)⟩
theorem Only.rd {R : Nat} {w w' : World} (h : Only R w w') : Rd R w w' := ⟨h.os, h.tape, h.output, Nat.le_of_eq h.size.symm, fun k _ hk => h.block k hk⟩
theorem Below.rd {R B : Nat} {w w' : World} (h : Below B w w') (hB : w.heap.size ≤ B) : Rd R w w' := ⟨h.os, h.tape, h.output, h.size, fun k hk _ => h.block k (by omega)⟩
theorem Rd.below {R B : Nat} {w w' : World} (h : Rd R w w') (hB : B ≤ R) (hs : B ≤ w.heap.size) : Below B w w' := ⟨h.os, h.tape, h.output, h.size, fun k hk => h.block k (by omega) (by omega)⟩
/-- The reader has come to place p of the bytes, or they are no entry's. -/
def Trk (bs : List Int) (p : Nat) (l : List Int) (bad : Bool) : Prop := ByteL l ∧ l.length ≤ 1000000 ∧ (bad = false → l = bs.drop p ∧ p ≤ bs.length) ∧ (bad = true → ¬ OkG bs)
theorem ByteL.dropE {bs : List Int} (h : ByteL bs) (k : Nat) : ByteL (bs.drop k) := by
  rw [byteL_iff] at h ⊢
  exact fun x hx => h x (List.mem_of_mem_drop hx)
theorem zz_drop (bs : List Int) (p j : Nat) : zz (bs.drop p) j = zz bs (p + j) := by
  unfold zz
  rw [List.getD_eq_getElem?_getD, List.getD_eq_getElem?_getD, List.getElem?_drop]
theorem rNum_trk (R : Nat) (bs l : List Int) (bad : Bool) (p n : Nat) (hn : 0 < n ∧ n ≤ 4) (w : World) (h : RG w R l bad) (ht : Trk bs p l bad) (hT : bs.length < p + n → ¬ OkG bs) :
    Calls Try.prog 46 #[.pointer (some ⟨R, 0, none⟩), .int .i64 n] w fun e w' => ∃ v l' bad', e = .returned (.int .u64 v) ∧ RG w' R l' bad' ∧ Trk bs (p + n) l' bad' ∧ (bad' = false → bad = false ∧ v = hvv (bs.drop p) n 0) ∧ (0 ≤ v ∧ v < 4294967296) ∧ Rd R w w' := by
  obtain ⟨h1, h2, h3, h4⟩ := ht
  by_cases hg : bad = false ∧ n ≤ l.length
  · obtain ⟨rfl, hl⟩ := hg
    refine (rNum_good R l n hn w h h1 hl h2).mono ?_
    rintro e w' ⟨rfl, hr, ho⟩
    obtain ⟨e1, e2⟩ := h3 rfl
    have hb := hvv_bd h1 n 0
    have hp : (256 : Int) ^ n ≤ 4294967296 := by
      rcases (by omega : n = 1 ∨ n = 2 ∨ n = 3 ∨ n = 4) with e | e | e | e <;> rw [e] <;> decide
    refine ⟨_, _, _, rfl, hr, ⟨h1.dropE n, by rw [List.length_drop]; omega, fun _ => ⟨by rw [e1, List.drop_drop], ?_⟩, fun h => by cases h⟩, fun _ => ⟨rfl, by rw [← e1]⟩, by omega, ho.rd⟩
    rw [e1, List.length_drop] at hl
    omega
  · refine (rNum_bad R l bad n hn w h ?_).mono ?_
    · cases bad with
      | true => exact Or.inl rfl
      | false => exact Or.inr (by have : ¬ n ≤ l.length := fun h => hg ⟨rfl, h⟩; omega)
    · rintro e w' ⟨rfl, hr, ho⟩
      refine ⟨_, _, _, rfl, hr, ⟨fun i => by unfold zz; simp, by simp, fun h => by (cases h), fun _ => ?_⟩, fun h => by (cases h), by omega, ho.rd⟩
      cases bad with
      | true => exact h4 rfl
      | false =>
        obtain ⟨e1, e2⟩ := h3 rfl
        refine hT ?_
        have : ¬ n ≤ l.length := fun h => hg ⟨rfl, h⟩
        rw [e1, List.length_drop] at this
        omega
theorem rNum1_trk (R : Nat) (bs l : List Int) (bad : Bool) (p : Nat) (w : World) (h : RG w R l bad) (ht : Trk bs p l bad) (hT : bs.length < p + 1 → ¬ OkG bs) :
    Calls Try.prog 46 #[.pointer (some ⟨R, 0, none⟩), .int .i64 1] w fun e w' => ∃ v l' bad', e = .returned (.int .u64 v) ∧ RG w' R l' bad' ∧ Trk bs (p + 1) l' bad' ∧ (bad' = false → bad = false ∧ v = zz bs p) ∧ (0 ≤ v ∧ v < 4294967296) ∧ Rd R w w' := by
  refine (rNum_trk R bs l bad p 1 (by omega) w h ht hT).mono ?_
  rintro e w' ⟨v, l', bad', h1, h2, h3, h4, h5, h6⟩
  refine ⟨v, l', bad', h1, h2, h3, fun h => ⟨(h4 h).1, ?_⟩, h5, h6⟩
  rw [(h4 h).2]
  show 0 * 256 + zz (bs.drop p) 0 = _
  rw [zz_drop]
  simp
theorem rInt_trk (R : Nat) (bs l : List Int) (bad : Bool) (p n : Nat) (hn : 0 < n ∧ n ≤ 4) (w : World) (h : RG w R l bad) (ht : Trk bs p l bad) (hT : bs.length < p + n → ¬ OkG bs) :
    Calls Try.prog 45 #[.pointer (some ⟨R, 0, none⟩), .int .i64 n] w fun e w' => ∃ v l' bad', e = .returned (.int .i64 v) ∧ RG w' R l' bad' ∧ Trk bs (p + n) l' bad' ∧ (bad' = false → bad = false ∧ v = hvv (bs.drop p) n 0) ∧ (0 ≤ v ∧ v < 4294967296) ∧ Rd R w w' := by
  go_enter Try.func45, Try.ntmps45
  go_wp2_with fail
  refine (rNum_trk R bs l bad p n hn w h ht hT).mono ?_
  rintro e w' ⟨v, l', bad', rfl, h2, h3, h4, h5, h6⟩
  have hv := IntWalk.i64_in v (by omega)
  have H2 := Lib.hid h2
  have H3 := Lib.hid h3
  have H4 := Lib.hid h4
  have H5 := Lib.hid h5
  have H6 := Lib.hid h6
  clear h2 h3 h4 h6
  go_wp2_with fail
  go_ret
  exact ⟨v, l', bad', by first | rfl | rw [hv], H2.out, H3.out, H4.out, H5.out, H6.out⟩
theorem rInt1_trk (R : Nat) (bs l : List Int) (bad : Bool) (p : Nat) (w : World) (h : RG w R l bad) (ht : Trk bs p l bad) (hT : bs.length < p + 1 → ¬ OkG bs) :
    Calls Try.prog 45 #[.pointer (some ⟨R, 0, none⟩), .int .i64 1] w fun e w' => ∃ v l' bad', e = .returned (.int .i64 v) ∧ RG w' R l' bad' ∧ Trk bs (p + 1) l' bad' ∧ (bad' = false → bad = false ∧ v = zz bs p) ∧ (0 ≤ v ∧ v < 4294967296) ∧ Rd R w w' := by
  refine (rInt_trk R bs l bad p 1 (by omega) w h ht hT).mono ?_
  rintro e w' ⟨v, l', bad', h1, h2, h3, h4, h5, h6⟩
  refine ⟨v, l', bad', h1, h2, h3, fun h => ⟨(h4 h).1, ?_⟩, h5, h6⟩
  rw [(h4 h).2]
  show 0 * 256 + zz (bs.drop p) 0 = _
  rw [zz_drop]
  simp
theorem rInt2_trk (R : Nat) (bs l : List Int) (bad : Bool) (p : Nat) (w : World) (h : RG w R l bad) (ht : Trk bs p l bad) (hT : bs.length < p + 2 → ¬ OkG bs) :
    Calls Try.prog 45 #[.pointer (some ⟨R, 0, none⟩), .int .i64 2] w fun e w' => ∃ v l' bad', e = .returned (.int .i64 v) ∧ RG w' R l' bad' ∧ Trk bs (p + 2) l' bad' ∧ (bad' = false → bad = false ∧ v = zz bs p + zz bs (p + 1) * 256) ∧ (0 ≤ v ∧ v < 4294967296) ∧ Rd R w w' := by
  refine (rInt_trk R bs l bad p 2 (by omega) w h ht hT).mono ?_
  rintro e w' ⟨v, l', bad', h1, h2, h3, h4, h5, h6⟩
  refine ⟨v, l', bad', h1, h2, h3, fun h => ⟨(h4 h).1, ?_⟩, h5, h6⟩
  rw [(h4 h).2]
  show (0 * 256 + zz (bs.drop p) (0 + 1)) * 256 + zz (bs.drop p) 0 = _
  rw [zz_drop, zz_drop]
  simp
  omega
theorem rInt4_trk (R : Nat) (bs l : List Int) (bad : Bool) (w : World) (h : RG w R l bad) (ht : Trk bs 0 l bad) (hT : bs.length < 4 → ¬ OkG bs) :
    Calls Try.prog 45 #[.pointer (some ⟨R, 0, none⟩), .int .i64 4] w fun e w' => ∃ v l' bad', e = .returned (.int .i64 v) ∧ RG w' R l' bad' ∧ Trk bs 4 l' bad' ∧ (bad' = false → bad = false ∧ v = gFr bs) ∧ (0 ≤ v ∧ v < 4294967296) ∧ Rd R w w' := by
  refine (rInt_trk R bs l bad 0 4 (by omega) w h ht hT).mono ?_
  rintro e w' ⟨v, l', bad', h1, h2, h3, h4, h5, h6⟩
  refine ⟨v, l', bad', h1, h2, h3, fun h => ⟨(h4 h).1, ?_⟩, h5, h6⟩
  rw [(h4 h).2]
  show (((0 * 256 + zz (bs.drop 0) (0 + 1 + 1 + 1)) * 256 + zz (bs.drop 0) (0 + 1 + 1)) * 256 + zz (bs.drop 0) (0 + 1)) * 256 + zz (bs.drop 0) 0 = _
  unfold gFr
  simp
  omega
theorem rEnd_any (R : Nat) (l : List Int) (bad : Bool) (w : World) (h : RG w R l bad) :
    Calls Try.prog 48 #[.pointer (some ⟨R, 0, none⟩)] w fun e w' => e = .returned (.bool (!bad && decide (l = []))) ∧ w' = w := by
  have c0 := h.c0
  have c1 := h.c1
  cases bad with
  | true =>
    go_enter Try.func48, Try.ntmps48
    go_wp2_with fail
    go_ret
    exact ⟨rfl, rfl⟩
  | false =>
    have he : (strOfNums l).toList.isEmpty = decide (l = []) := by
      rw [Lib.strOfNums_toList]
      cases l <;> rfl
    go_enter Try.func48, Try.ntmps48
    go_wp2_with fail
    go_ret
    exact ⟨by simp [he], rfl⟩
end Go.Proofs.Ytembppihfcclcaa

namespace Go.Proofs.Ytembppihfcclcaa
set_option linter.unusedVariables false
open Go.ChangeShapes Go.WideShapes Go.ChangeAt Go.RowKit

set_option linter.unusedSimpArgs false
def cst (c : Nat) : Nat := (c * 2 % 4294967296) ^^^ (c / 2147483648 * 1947962583)
def cst8 : Nat → Nat → Nat
  | 0, c => c
  | n + 1, c => cst (cst8 n c)
def crc (bs : List Int) : Nat → Nat
  | 0 => 4294967295
  | n + 1 => cst8 8 (crc bs n ^^^ ((zz bs n).toNat * 16777216))
theorem cst_lt (c : Nat) (h : c < 4294967296) : cst c < 4294967296 := by
  unfold cst
  exact Nat.xor_lt_two_pow (n := 32) (by omega) (by omega)
theorem cst8_lt : ∀ n c, c < 4294967296 → cst8 n c < 4294967296
  | 0, c, h => h
  | n + 1, c, h => cst_lt _ (cst8_lt n c h)
theorem crc_lt (bs : List Int) (hby : ByteL bs) : ∀ n, crc bs n < 4294967296
  | 0 => by show 4294967295 < _; omega
  | n + 1 => cst8_lt 8 _ (Nat.xor_lt_two_pow (n := 32) (crc_lt bs hby n) (by have := hby n; omega))
theorem xor_u32 (a b : Nat) (ha : a < 4294967296) (hb : b < 4294967296) : bits .xor .u32 (a : Int) (b : Int) = ((a ^^^ b : Nat) : Int) := by
  have hx : a < 2 ^ 32 := ha
  have hy : b < 2 ^ 32 := hb
  have hxy := Nat.xor_lt_two_pow hx hy
  have h1 : a % 2 ^ IntKind.u32.bits = a := Nat.mod_eq_of_lt hx
  have h2 : b % 2 ^ IntKind.u32.bits = b := Nat.mod_eq_of_lt hy
  simp only [bits, BitVec.ofInt_natCast, BitVec.toNat_xor, BitVec.toNat_ofNat, h1, h2]
  generalize a ^^^ b = q at *
  simp [IntKind.wrap, IntKind.bits, IntKind.signed]
  omega
theorem cst_xor (c : Nat) (h : c < 4294967296) : bits .xor .u32 ((c : Int) * 2 % 4294967296) ((c : Int) / 2147483648 * 1947962583) = (cst c : Nat) := by
  have := xor_u32 (c * 2 % 4294967296) (c / 2147483648 * 1947962583) (by omega) (by omega)
  unfold cst
  rw [← this]
  have e1 : ((c * 2 % 4294967296 : Nat) : Int) = (c : Int) * 2 % 4294967296 := by omega
  have e2 : ((c / 2147483648 * 1947962583 : Nat) : Int) = (c : Int) / 2147483648 * 1947962583 := by omega
  rw [e1, e2]
set_option maxHeartbeats 1000000 in
theorem check_any (v : Value) (bs : List Int) (w : World) (h : BytesV w v bs) (hby : ByteL bs) :
    Calls Try.prog 24 #[v] w fun e w' => e = .returned (.int .u32 (crc bs bs.length)) ∧ Below w.heap.size w w' := by
  obtain ⟨a, cap, rfl, hnc, hcm, hev⟩ := h
  unfold maxLen at hcm
  have HEV := Lib.hid hev
  have HBY := Lib.hid hby
  clear hev hby
  go_enter Try.func24, Try.ntmps24
  go_wp2_with fail
  go_loopw [3, 9] (fun c i wr => ∃ k : Nat, k ≤ bs.length ∧ i = .int .i64 k ∧ c = .int .u32 (crc bs k : Nat) ∧ Below w.heap.size w wr) (fun _ i _ => bs.length - (intOf i).toNat)
  case atStart => exact ⟨0, by omega, rfl, rfl, Below.refl _ _⟩
  case round =>
    obtain ⟨k, hk, rfl, rfl, hB⟩ := hrel
    have HB := Lib.hid hB
    by_cases hlt : k < bs.length
    · obtain ⟨b, o, rfl, hbl, hin⟩ := HEV.out (by omega)
      have d0 := (hin.block (hB.block b hbl)) k hlt
      have hki : (k : Int) < (bs.length : Int) := by omega
      have HN : Hid (crc bs (k + 1) = cst8 8 (crc bs k ^^^ ((zz bs k).toNat * 16777216))) := Lib.hid rfl
      have hx := HBY.out k
      have hd : bs.getD k 0 = zz bs k := rfl
      rw [hd] at d0
      have hc := crc_lt bs HBY.out k
      have hxor := xor_u32 (crc bs k) ((zz bs k).toNat * 16777216) hc (by omega)
      have hsh : (((zz bs k).toNat * 16777216 : Nat) : Int) = zz bs k * 16777216 := by omega
      rw [hsh] at hxor
      have HC0 := Lib.hid (Nat.xor_lt_two_pow (n := 32) hc (show (zz bs k).toNat * 16777216 < 2 ^ 32 by omega))
      generalize zz bs k = x at *
      generalize crc bs k = c at *
      generalize (c ^^^ (x.toNat * 16777216)) = c0 at *
      clear hB hin hsh hd
      go_wp2_with fail
      clear d0 hxor
      go_loopw [3, 18] (fun c i wr' => wr' = wr ∧ ∃ m : Nat, m ≤ 8 ∧ i = .int .i64 m ∧ c = .int .u32 (cst8 m c0 : Nat)) (fun _ i _ => 8 - (intOf i).toNat)
      case atStart => exact ⟨rfl, 0, by omega, rfl, rfl⟩
      case round =>
        obtain ⟨rfl, m, hm, rfl, rfl⟩ := hrel
        by_cases hlt8 : m < 8
        · have hc1 := cst8_lt m c0 HC0.out
          have HN1 : Hid (cst8 (m + 1) c0 = cst (cst8 m c0)) := Lib.hid rfl
          have hx2 := cst_xor (cst8 m c0) hc1
          generalize cst (cst8 m c0) = c2 at *
          generalize cst8 m c0 = c1 at *
          go_wp2_with fail
          exact ⟨⟨by first | rfl | trivial, m + 1, by omega, by go_num, by rw [HN1.out]⟩, by simp [intOf]; omega⟩
        · obtain rfl : m = 8 := by omega
          go_wp2_with fail
          exact ⟨⟨k + 1, by omega, by go_num, by rw [HN.out], HB.out⟩, by simp [intOf]; omega⟩
    · obtain rfl : k = bs.length := by omega
      go_wp2_with fail
      go_ret
      exact ⟨rfl, hB⟩
end Go.Proofs.Ytembppihfcclcaa

namespace Go.Proofs.Ytembppihfcclcaa
set_option linter.unusedVariables false
open Go.ChangeShapes Go.WideShapes Go.ChangeAt Go.RowKit

set_option linter.unusedSimpArgs false
/-- The kind of the k-th number of a message. -/
def mk (k : Nat) : IntKind := if k = 2 ∨ k = 3 then .u16 else if k = 4 ∨ k = 11 then .u32 else if k = 12 then .u64 else .i64
def msgF (F : Nat → Int) (iv lv dv : Value) (k : Nat) : Value := if k = 13 then iv else if k = 14 then lv else if k = 15 then dv else .int (mk k) (F k)
def msgL (F : Nat → Int) (iv lv dv : Value) : List Value := (List.range 16).map (msgF F iv lv dv)
theorem msgL_len (F : Nat → Int) (iv lv dv : Value) : (msgL F iv lv dv).length = 16 := by unfold msgL; rw [List.length_map, List.length_range]
theorem msgL_get (F : Nat → Int) (iv lv dv : Value) (k : Nat) (hk : k < 16) : (msgL F iv lv dv)[k]? = some (msgF F iv lv dv k) := by
  unfold msgL; rw [List.getElem?_map, List.getElem?_range hk]; rfl
theorem size_msg (F : Nat → Int) (iv lv dv : Value) : (Try.prog.info? 30).map (·.size) = some (msgL F iv lv dv).length := by rw [msgL_len]; kernel_rfl
/-- A message in memory, from place 0 of block b on. -/
structure MsgAt (w : World) (b : Nat) (F : Nat → Int) (iv lv dv : Value) : Prop where
  cell : ∀ k, k < 16 → w.cell? ⟨b, k, none⟩ = some (msgF F iv lv dv k)
section
variable {w w' : World} {b : Nat} {F : Nat → Int} {iv lv dv : Value}
theorem MsgAt.block (a : MsgAt w b F iv lv dv) (k : w'.heap[b]? = w.heap[b]?) : MsgAt w' b F iv lv dv := ⟨fun j hj => (World.cell?_of_block (a := ⟨b, j, none⟩) k).trans (a.cell j hj)⟩
theorem MsgAt.lt (a : MsgAt w b F iv lv dv) : b < w.heap.size := block_of_cell (a.cell 0 (by decide))
theorem MsgAt.c0 (a : MsgAt w b F iv lv dv) : w.cell? ⟨b, 0, none⟩ = some (.int .i64 (F 0)) := a.cell 0 (by decide)
theorem MsgAt.c1 (a : MsgAt w b F iv lv dv) : w.cell? ⟨b, 1, none⟩ = some (.int .i64 (F 1)) := a.cell 1 (by decide)
theorem MsgAt.c2 (a : MsgAt w b F iv lv dv) : w.cell? ⟨b, 2, none⟩ = some (.int .u16 (F 2)) := a.cell 2 (by decide)
theorem MsgAt.c3 (a : MsgAt w b F iv lv dv) : w.cell? ⟨b, 3, none⟩ = some (.int .u16 (F 3)) := a.cell 3 (by decide)
theorem MsgAt.c4 (a : MsgAt w b F iv lv dv) : w.cell? ⟨b, 4, none⟩ = some (.int .u32 (F 4)) := a.cell 4 (by decide)
theorem MsgAt.c5 (a : MsgAt w b F iv lv dv) : w.cell? ⟨b, 5, none⟩ = some (.int .i64 (F 5)) := a.cell 5 (by decide)
theorem MsgAt.c6 (a : MsgAt w b F iv lv dv) : w.cell? ⟨b, 6, none⟩ = some (.int .i64 (F 6)) := a.cell 6 (by decide)
theorem MsgAt.c7 (a : MsgAt w b F iv lv dv) : w.cell? ⟨b, 7, none⟩ = some (.int .i64 (F 7)) := a.cell 7 (by decide)
theorem MsgAt.c8 (a : MsgAt w b F iv lv dv) : w.cell? ⟨b, 8, none⟩ = some (.int .i64 (F 8)) := a.cell 8 (by decide)
theorem MsgAt.c9 (a : MsgAt w b F iv lv dv) : w.cell? ⟨b, 9, none⟩ = some (.int .i64 (F 9)) := a.cell 9 (by decide)
theorem MsgAt.c10 (a : MsgAt w b F iv lv dv) : w.cell? ⟨b, 10, none⟩ = some (.int .i64 (F 10)) := a.cell 10 (by decide)
theorem MsgAt.c11 (a : MsgAt w b F iv lv dv) : w.cell? ⟨b, 11, none⟩ = some (.int .u32 (F 11)) := a.cell 11 (by decide)
theorem MsgAt.c12 (a : MsgAt w b F iv lv dv) : w.cell? ⟨b, 12, none⟩ = some (.int .u64 (F 12)) := a.cell 12 (by decide)
theorem MsgAt.c13 (a : MsgAt w b F iv lv dv) : w.cell? ⟨b, 13, none⟩ = some iv := a.cell 13 (by decide)
theorem MsgAt.c14 (a : MsgAt w b F iv lv dv) : w.cell? ⟨b, 14, none⟩ = some lv := a.cell 14 (by decide)
theorem MsgAt.c15 (a : MsgAt w b F iv lv dv) : w.cell? ⟨b, 15, none⟩ = some dv := a.cell 15 (by decide)
theorem MsgAt.range (a : MsgAt w b F iv lv dv) : w.rangeAt b 0 (msgL F iv lv dv) := by
  intro j x hx
  have hj : j < 16 := by have := (List.getElem?_eq_some_iff.1 hx).1; rw [msgL_len] at this; exact this
  rw [msgL_get _ _ _ _ _ hj] at hx
  rw [Nat.zero_add, a.cell j hj]; exact hx
end
theorem msgAt_new (F : Nat → Int) (iv lv dv : Value) (T : TypeId) (w : World) : MsgAt (w.alloc (Obj.cells (msgL F iv lv dv).toArray T)) w.heap.size F iv lv dv := by
  constructor
  intro k hk
  rw [World.cell?_alloc_new, List.getElem?_toArray, msgL_get _ _ _ _ _ hk]
/-- A row of inputs, in memory. -/
def InpsV (w : World) (v : Value) (n : Nat) (I : Nat → Int) : Prop :=
  ∃ a cap, v = .slice a n cap ∧ n ≤ cap ∧ cap ≤ maxLen ∧ (0 < n → ∃ b o, a = some ⟨b, o, none⟩ ∧ b < w.heap.size ∧ InpsAt w b o n I)
theorem InpsV.below {w w' : World} {v : Value} {n : Nat} {I : Nat → Int} {B : Nat} (h : InpsV w v n I) (hb : Below B w w') (hs : w.heap.size ≤ B) : InpsV w' v n I := by
  obtain ⟨a, cap, rfl, h1, h2, h3⟩ := h
  refine ⟨a, cap, rfl, h1, h2, fun hn => ?_⟩
  obtain ⟨b, o, rfl, hlt, he⟩ := h3 hn
  have := hb.size
  exact ⟨b, o, rfl, by omega, he.block (hb.block b (by omega))⟩
/-- What a message says. -/
structure Msg where
  F : Nat → Int
  ni : Nat
  I : Nat → Int
  nl : Nat
  D : Nat → Ent
  d : List Int
/-- The rows of a message, in memory. -/
structure RowsV (w : World) (iv lv dv : Value) (M : Msg) : Prop where
  i : InpsV w iv M.ni M.I
  l : EntsV w lv M.nl M.D
  d : BytesV w dv M.d
theorem RowsV.below {w w' : World} {iv lv dv : Value} {M : Msg} {B : Nat} (h : RowsV w iv lv dv M) (hb : Below B w w') (hs : w.heap.size ≤ B) : RowsV w' iv lv dv M :=
  ⟨h.i.below hb hs, h.l.below hb hs, h.d.below hb hs⟩
theorem msgL_one {w : World} {iv lv dv : Value} {M : Msg} (h : RowsV w iv lv dv M) (F : Nat → Int) : (msgL F iv lv dv).toArray.all (·.oneCell') = true := all_oneCell_toArray (by
  obtain ⟨⟨a1, c1, rfl, -⟩, ⟨a2, c2, rfl, -⟩, ⟨a3, c3, rfl, -⟩⟩ := h
  unfold msgL; intro x hx; rw [List.mem_map] at hx; obtain ⟨k, -, rfl⟩ := hx
  unfold msgF
  repeat' split
  all_goals rfl)
def partsN (k : Int) : Int :=
  if k = 2 then 7 else if k = 3 then 8 else if k = 10 then 8 else if k = 4 then 263 else if k = 5 then 516 else if k = 6 then 4 else if k = 7 then 1204 else if k = 8 then 80 else if k = 11 then 16 else if k = 12 then 16 else if k = 13 then 132 else if k = 1 then 0 else if k = 9 then 0 else if k = 14 then 0 else -1
theorem parts_no (k : Int) (h1 : k ≠ 1) (h2 : k ≠ 2) (h3 : k ≠ 3) (h4 : k ≠ 4) (h5 : k ≠ 5) (h6 : k ≠ 6) (h7 : k ≠ 7) (h8 : k ≠ 8) (h9 : k ≠ 9) (h10 : k ≠ 10) (h11 : k ≠ 11) (h12 : k ≠ 12) (h13 : k ≠ 13) (h14 : k ≠ 14) (w : World) :
    Calls Try.prog 25 #[.int .i64 k] w fun e w' => e = .returned (.int .i64 (-1)) ∧ w = w' := by
  go_enter Try.func25, Try.ntmps25
  go_wp2
  go_ret
  exact ⟨rfl, rfl⟩
theorem kind_cases (k : Int) : k = 1 ∨ k = 2 ∨ k = 3 ∨ k = 4 ∨ k = 5 ∨ k = 6 ∨ k = 7 ∨ k = 8 ∨ k = 9 ∨ k = 10 ∨ k = 11 ∨ k = 12 ∨ k = 13 ∨ k = 14 ∨ (k ≠ 1 ∧ k ≠ 2 ∧ k ≠ 3 ∧ k ≠ 4 ∧ k ≠ 5 ∧ k ≠ 6 ∧ k ≠ 7 ∧ k ≠ 8 ∧ k ≠ 9 ∧ k ≠ 10 ∧ k ≠ 11 ∧ k ≠ 12 ∧ k ≠ 13 ∧ k ≠ 14) := by omega
theorem parts_none (k : Int) (h : k ≠ 1 ∧ k ≠ 2 ∧ k ≠ 3 ∧ k ≠ 4 ∧ k ≠ 5 ∧ k ≠ 6 ∧ k ≠ 7 ∧ k ≠ 8 ∧ k ≠ 9 ∧ k ≠ 10 ∧ k ≠ 11 ∧ k ≠ 12 ∧ k ≠ 13 ∧ k ≠ 14) : partsN k = -1 := by
  obtain ⟨h1, h2, h3, h4, h5, h6, h7, h8, h9, h10, h11, h12, h13, h14⟩ := h
  unfold partsN
  rw [if_neg h2, if_neg h3, if_neg h10, if_neg h4, if_neg h5, if_neg h6, if_neg h7, if_neg h8, if_neg h11, if_neg h12, if_neg h13, if_neg h1, if_neg h9, if_neg h14]
theorem parts_any (k : Int) (w : World) : Calls Try.prog 25 #[.int .i64 k] w fun e w' => e = .returned (.int .i64 (partsN k)) ∧ w = w' := by
  rcases kind_cases k with rfl | rfl | rfl | rfl | rfl | rfl | rfl | rfl | rfl | rfl | rfl | rfl | rfl | rfl | ⟨h1, h2, h3, h4, h5, h6, h7, h8, h9, h10, h11, h12, h13, h14⟩
  iterate 14
    · go_enter Try.func25, Try.ntmps25
      go_wp2
      go_ret
      exact ⟨rfl, rfl⟩
  rw [parts_none k ⟨h1, h2, h3, h4, h5, h6, h7, h8, h9, h10, h11, h12, h13, h14⟩]
  exact parts_no k h1 h2 h3 h4 h5 h6 h7 h8 h9 h10 h11 h12 h13 h14 w
/-- Has a kind the j-th part? -/
def hasB (k : Int) (j : Nat) : Bool := !(bits .and .i64 (max (partsN k) 0) (2 ^ j) == 0)
theorem has_cases (k : Int) : partsN k = 7 ∨ partsN k = 8 ∨ partsN k = 263 ∨ partsN k = 516 ∨ partsN k = 4 ∨ partsN k = 1204 ∨ partsN k = 80 ∨ partsN k = 16 ∨ partsN k = 132 ∨ partsN k = 0 ∨ partsN k = -1 := by
  rcases kind_cases k with rfl | rfl | rfl | rfl | rfl | rfl | rfl | rfl | rfl | rfl | rfl | rfl | rfl | rfl | h
  iterate 14
    · decide
  rw [parts_none k h]
  decide
theorem has_and (k : Int) (h : 0 ≤ partsN k) (j : Nat) : (bits .and .i64 (partsN k) (2 ^ j) == 0) = !hasB k j := by
  unfold hasB
  rw [Bool.not_not, Int.max_eq_left h]
def inB (has : Bool) (n lo hi : Int) : Bool := if has then decide (lo ≤ n) && decide (n ≤ hi) else n == 0
theorem in_any (has : Bool) (h p n lo hi : Int) (hh : (bits .and .i64 h p == 0) = !has) (w : World) :
    Calls Try.prog 26 #[.int .i64 h, .int .i64 p, .int .i64 n, .int .i64 lo, .int .i64 hi] w fun e w' => e = .returned (.bool (inB has n lo hi)) ∧ w = w' := by
  unfold inB
  cases has
  · rw [if_neg (by decide)]
    go_enter Try.func26, Try.ntmps26
    go_wp2
    go_ret
    exact ⟨rfl, rfl⟩
  · rw [if_pos rfl]
    cases h1 : decide (lo ≤ n)
    · go_enter Try.func26, Try.ntmps26
      go_wp2
      go_ret
      exact ⟨rfl, rfl⟩
    · go_enter Try.func26, Try.ntmps26
      go_wp2
      go_ret
      exact ⟨rfl, rfl⟩
theorem rows_any (has : Bool) (h p : Int) (n : Nat) (most : Int) (hh : (bits .and .i64 h p == 0) = !has) (w : World) :
    Calls Try.prog 27 #[.int .i64 h, .int .i64 p, .int .i64 n, .int .i64 most] w fun e w' => e = .returned (.bool (inB has n 1 most)) ∧ w = w' := by
  have HH := Lib.hid hh
  clear hh
  go_enter Try.func27, Try.ntmps27
  go_wp2_with fail
  refine (in_any has h p n 1 most HH.out _).mono ?_
  rintro e w' ⟨rfl, rfl⟩
  go_wp2_with fail
  go_ret
  exact ⟨rfl, rfl⟩
end Go.Proofs.Ytembppihfcclcaa
