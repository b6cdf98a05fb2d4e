/-
  Entry: the reference's PutEntry.
-/
import Derived.Test.YtmhgkkfeohaojaaX
namespace Go.Proofs.Ytmhgkkfeohaojaa
set_option linter.unusedVariables false
open Go.ChangeShapes Go.WideShapes Go.ChangeAt Go.RowKit

set_option linter.unusedSimpArgs false
theorem num1 (v : Int) (hv : 0 ≤ v ∧ v < 18446744073709551616) (w : World) : Calls Try.prog 24 #[.int .u64 v, .int .i64 1] w fun e w' => e = .returned (.string (strOfNums [v % 256])) ∧ Below w.heap.size w w' := by
  have h := num_any v 1 hv (by omega) w
  have e : leB v 1 = [v % 256] := by simp [leB]
  rw [e] at h
  exact h
theorem num2 (v : Int) (hv : 0 ≤ v ∧ v < 18446744073709551616) (w : World) : Calls Try.prog 24 #[.int .u64 v, .int .i64 2] w fun e w' => e = .returned (.string (strOfNums [v % 256, v / 256 % 256])) ∧ Below w.heap.size w w' := by
  have h := num_any v 2 hv (by omega) w
  have e : leB v 2 = [v % 256, v / 256 % 256] := by simp [leB]
  rw [e] at h
  exact h
theorem num4 (v : Int) (hv : 0 ≤ v ∧ v < 18446744073709551616) (w : World) : Calls Try.prog 24 #[.int .u64 v, .int .i64 4] w fun e w' => e = .returned (.string (strOfNums [v % 256, v / 256 % 256, v / 65536 % 256, v / 16777216 % 256])) ∧ Below w.heap.size w w' := by
  have h := num_any v 4 hv (by omega) w
  have e : leB v 4 = [v % 256, v / 256 % 256, v / 65536 % 256, v / 16777216 % 256] := by simp [leB]
  rw [e] at h
  exact h
theorem run_cat (la lb : List Int) (h : la.length + lb.length ≤ 1000000) (w : World) : (Op.stringOp .add (strOfNums la) (strOfNums lb)).run Try.prog w = .ok (.string (strOfNums (la ++ lb))) w := by
  rw [run_string_add_sum w _ _ (by rw [strOfNums_size, strOfNums_size]; omega), strOfNums_cat]
theorem or_i64 (a s : Nat) (ha : a < 2 ^ s) (hs : s < 8) : bits .or .i64 (a : Int) (wrap64 ((2 : Int) ^ s)) = ((a ||| 2 ^ s : Nat) : Int) := by
  have h0 : ∀ t : Nat, t < 8 → ∀ b : Nat, b < 2 ^ t → bits .or .i64 (b : Int) (wrap64 ((2 : Int) ^ t)) = ((b ||| 2 ^ t : Nat) : Int) := by
    decide +kernel
  exact h0 s hs a ha
set_option maxHeartbeats 400000 in
theorem putRef_any (fr : Int) (sv : Value) (n : Nat) (E : Nat → Nat → Int) (I : Nat → Int) (w : World) (hsv : EvsV w sv n E) (hb : EntB fr n E I) (hm : mayE fr n E I = true) :
    Calls Try.prog 13 #[.agg (entL fr sv I).toArray] w fun e w' => e = .returned (.string (strOfNums (putB fr n E I))) ∧ Below w.heap.size w w' := by
  have hfr := (mayE_parts hm).1
  have hn16 := mayE_le hm
  have HR := Lib.hid (evs_rank E n (mayE_parts hm).2.1)
  have HBI := Lib.hid hb.b
  obtain ⟨a, cap, rfl, hnc, hcm, hev⟩ := hsv
  unfold maxLen at hcm
  have HA := Lib.hid (entAt_new fr (.slice a n cap) I 28 w)
  have HB := Lib.hid ((Below.refl w.heap.size w).alloc (Nat.le_refl _) (Obj.cells (entL fr (.slice a n cap) I).toArray 28))
  have HEV := Lib.hid hev
  have HF : Hid (0 ≤ fr ∧ fr < 18446744073709551616) := Lib.hid ⟨hfr.1, by omega⟩
  have HNN : Hid (0 ≤ (n : Int) ∧ (n : Int) < 18446744073709551616) := Lib.hid ⟨by omega, by omega⟩
  clear hev hb hm
  go_enter Try.func13, Try.ntmps13
  go_wp2_with fail
  generalize w.alloc (Obj.cells (entL fr (.slice a n cap) I).toArray 28) = w1 at *
  have c0 := cell_regrown HA.out.z0
  have c1 := cell_regrown HA.out.z1
  have hfu : IntKind.u64.wrap fr = fr := by simp [IntKind.wrap, IntKind.bits, IntKind.signed]; omega
  have hcat := run_cat [fr % 256, fr / 256 % 256, fr / 65536 % 256, fr / 16777216 % 256] [(n : Int) % 256] (by simp)
  refine wp_region_quiet_below (by kernel_rfl) (by kernel_rfl) ?_
  iterate 4 (go_big_quiet_step (exact Calls.regrown_of (num4 fr HF.out _)))
  repeat (go_big_quiet_step (exact Calls.regrown_of (num1 n HNN.out _)))
  refine wpQuiet_nil ?_
  intro w10 hw'
  obtain ⟨⟨nq, osq⟩, hw3⟩ := hw'
  replace HB := Lib.hid (HB.out.trans ((below_regrown w1 nq osq).mono HB.out.size))
  replace HA := Lib.hid (HA.out.block ((below_regrown w1 nq osq).block _ HA.out.lt))
  rw [← hw3] at HA HB
  clear hw3 hcat c0 c1 hfu HF HNN
  go_wp2_with fail
  go_loopw [3, 4] (fun s i wr => ∃ k : Nat, k ≤ n ∧ i = .int .i64 k ∧ s = .string (strOfNums (headB fr n ++ evsB E k)) ∧ EntAt wr w.heap.size 0 fr (.slice a n cap) I ∧ Below w.heap.size w wr) (fun _ i _ => n - (intOf i).toNat)
  case atStart => exact ⟨0, by omega, rfl, rfl, HA.out, HB.out⟩
  case round =>
    obtain ⟨k, hk, rfl, rfl, hA, hB⟩ := hrel
    clear HA HB
    have HA := Lib.hid hA
    have HB := Lib.hid hB
    have c1 := hA.z1
    clear hA
    by_cases hlt : k < n
    · obtain ⟨b, o, rfl, hbl, hin⟩ := HEV.out (by omega)
      have he := hin.block (hB.block b hbl)
      have d0 := he.k k hlt
      have d1 := he.s k hlt
      have d2 := he.g k hlt
      have d3 := he.p k hlt
      have hki : (k : Int) < (n : Int) := by omega
      have hr := (HR.out k hlt).1
      have hl : (headB fr n ++ evsB E k).length ≤ 100 := by rw [List.length_append, evsB_len]; show 5 + _ ≤ _; omega
      have HN : Hid (headB fr n ++ evsB E (k + 1) = (headB fr n ++ evsB E k) ++ [E k 0 % 256, E k 1 % 256, E k 2 % 256, E k 2 / 256 % 256, E k 3 % 256]) := Lib.hid (by rw [List.append_assoc]; rfl)
      clear hB he hin
      generalize headB fr n ++ evsB E k = S at *
      generalize E k 0 = x0 at *
      generalize E k 1 = x1 at *
      generalize E k 2 = x2 at *
      generalize E k 3 = x3 at *
      obtain ⟨S1, h1⟩ : ∃ S1, S1 = S ++ [x0 % 256] := ⟨_, rfl⟩
      obtain ⟨S2, h2⟩ : ∃ S2, S2 = S1 ++ [x1 % 256] := ⟨_, rfl⟩
      obtain ⟨S3, h3⟩ : ∃ S3, S3 = S2 ++ [x2 % 256, x2 / 256 % 256] := ⟨_, rfl⟩
      obtain ⟨S4, h4⟩ : ∃ S4, S4 = S3 ++ [x3 % 256] := ⟨_, rfl⟩
      have HS4 : Hid (S4 = headB fr n ++ evsB E (k + 1)) := Lib.hid (by rw [HN.out, h4, h3, h2, h1]; simp)
      have l1 : S1.length = S.length + 1 := by rw [h1]; simp
      have l2 : S2.length = S.length + 2 := by rw [h2]; simp [l1]
      have l3 : S3.length = S.length + 4 := by rw [h3]; simp [l2]
      have t1 : ∀ W, (Op.stringOp .add (strOfNums S) (strOfNums [x0 % 256])).run Try.prog W = .ok (.string (strOfNums S1)) W := by rw [h1]; exact run_cat _ _ (by simp; omega)
      have t2 : ∀ W, (Op.stringOp .add (strOfNums S1) (strOfNums [x1 % 256])).run Try.prog W = .ok (.string (strOfNums S2)) W := by rw [h2]; exact run_cat _ _ (by simp; omega)
      have t3 : ∀ W, (Op.stringOp .add (strOfNums S2) (strOfNums [x2 % 256, x2 / 256 % 256])).run Try.prog W = .ok (.string (strOfNums S3)) W := by rw [h3]; exact run_cat _ _ (by simp; omega)
      have t4 : ∀ W, (Op.stringOp .add (strOfNums S3) (strOfNums [x3 % 256])).run Try.prog W = .ok (.string (strOfNums S4)) W := by rw [h4]; exact run_cat _ _ (by simp; omega)
      have u0 : IntKind.u64.wrap x0 = x0 := by simp [IntKind.wrap, IntKind.bits, IntKind.signed]; omega
      have u1 : IntKind.u64.wrap x1 = x1 := by simp [IntKind.wrap, IntKind.bits, IntKind.signed]; omega
      have u2 : IntKind.u64.wrap x2 = x2 := by simp [IntKind.wrap, IntKind.bits, IntKind.signed]; omega
      have u3 : IntKind.u64.wrap x3 = x3 := by simp [IntKind.wrap, IntKind.bits, IntKind.signed]; omega
      have r0 : Hid (0 ≤ x0 ∧ x0 < 18446744073709551616) := Lib.hid (by omega)
      have r1 : Hid (0 ≤ x1 ∧ x1 < 18446744073709551616) := Lib.hid (by omega)
      have r2 : Hid (0 ≤ x2 ∧ x2 < 18446744073709551616) := Lib.hid (by omega)
      have r3 : Hid (0 ≤ x3 ∧ x3 < 18446744073709551616) := Lib.hid (by omega)
      clear h1 h2 h3 h4 l1 l2 l3 hl HN hr
      have q0 := cell_regrown (show (wr.alloc (Obj.cells #[.int .i64 x0, .int .i64 x1, .int .i64 x2, .int .i64 x3] 43)).cell? ⟨wr.heap.size, 0, none⟩ = some (.int .i64 x0) by rw [World.cell?_alloc_new]; rfl)
      have q1 := cell_regrown (show (wr.alloc (Obj.cells #[.int .i64 x0, .int .i64 x1, .int .i64 x2, .int .i64 x3] 43)).cell? ⟨wr.heap.size, 1, none⟩ = some (.int .i64 x1) by rw [World.cell?_alloc_new]; rfl)
      have q2 := cell_regrown (show (wr.alloc (Obj.cells #[.int .i64 x0, .int .i64 x1, .int .i64 x2, .int .i64 x3] 43)).cell? ⟨wr.heap.size, 2, none⟩ = some (.int .i64 x2) by rw [World.cell?_alloc_new]; rfl)
      have q3 := cell_regrown (show (wr.alloc (Obj.cells #[.int .i64 x0, .int .i64 x1, .int .i64 x2, .int .i64 x3] 43)).cell? ⟨wr.heap.size, 3, none⟩ = some (.int .i64 x3) by rw [World.cell?_alloc_new]; rfl)
      replace HA := Lib.hid (HA.out.block (Below.heap_alloc wr (Obj.cells #[.int .i64 x0, .int .i64 x1, .int .i64 x2, .int .i64 x3] 43) w.heap.size HA.out.lt))
      replace HB := Lib.hid (HB.out.alloc HB.out.size (Obj.cells #[.int .i64 x0, .int .i64 x1, .int .i64 x2, .int .i64 x3] 43))
      go_wp2_with fail
      clear d0 d1 d2 d3
      generalize wr.alloc (Obj.cells #[.int .i64 x0, .int .i64 x1, .int .i64 x2, .int .i64 x3] 43) = w2 at *
      refine wp_region_quiet_below (by kernel_rfl) (by kernel_rfl) ?_
      iterate 5 (go_big_quiet_step (exact Calls.regrown_of (num1 x0 r0.out _)))
      iterate 5 (go_big_quiet_step (exact Calls.regrown_of (num1 x1 r1.out _)))
      iterate 5 (go_big_quiet_step (exact Calls.regrown_of (num2 x2 r2.out _)))
      iterate 5 (go_big_quiet_step (exact Calls.regrown_of (num1 x3 r3.out _)))
      repeat (go_big_quiet_step (fail))
      refine wpQuiet_nil ?_
      intro w11 hw'
      obtain ⟨⟨nq, osq⟩, hw3⟩ := hw'
      replace HB := Lib.hid (HB.out.trans ((below_regrown w2 nq osq).mono HB.out.size))
      replace HA := Lib.hid (HA.out.block ((below_regrown w2 nq osq).block _ HA.out.lt))
      rw [← hw3] at HA HB
      clear hw3 q0 q1 q2 q3 t1 t2 t3 t4 u0 u1 u2 u3 r0 r1 r2 r3
      go_wp2_with fail
      all_goals first | exact ⟨⟨k + 1, by omega, by go_num, by rw [HS4.out], HA.out, HB.out⟩, by simp [intOf]; omega⟩ | exact ⟨k + 1, by omega, by go_num, by rw [HS4.out], HA.out, HB.out⟩ | (simp [intOf]; omega) | go_roundw
    · obtain rfl : k = n := by omega
      clear hB
      go_wp2_with fail
      go_loopw [6, 7, 8] (fun m u i wr => ∃ s : Nat, s ≤ 8 ∧ i = .int .i64 s ∧ m = .int .i64 (maskN I s : Int) ∧ u = .string (strOfNums (inpsB I s)) ∧ EntAt wr w.heap.size 0 fr (.slice a k cap) I ∧ Below w.heap.size w wr) (fun _ _ i _ => 8 - (intOf i).toNat)
      case atStart => exact ⟨0, by omega, rfl, rfl, rfl, HA.out, HB.out⟩
      case round =>
        obtain ⟨s, hs, rfl, rfl, rfl, hA, hB⟩ := hrel
        clear HA HB c1
        have HA := Lib.hid hA
        have HB := Lib.hid hB
        clear hB
        by_cases hlt : s < 8
        · have d0 := hA.inps.x s hlt
          have d1 := hA.inps.y s hlt
          have d2 := hA.inps.z s hlt
          have hz : 0 ≤ I (s * 3 + 2) ∧ I (s * 3 + 2) ≤ 255 := HBI.out (s * 3 + 2) (by omega) (by omega)
          have HNZ : Hid (inpNZ I s = !(I (s * 3) == 0 && (I (s * 3 + 1) == 0 && I (s * 3 + 2) == 0))) := Lib.hid rfl
          have hlen := inpsB_len I s
          have HCat : Hid (inpNZ I s = true → ∀ W, (Op.stringOp .add (strOfNums (inpsB I s)) (strOfNums [I (s * 3) % 256, I (s * 3 + 1) % 256, I (s * 3 + 2)])).run Try.prog W = .ok (.string (strOfNums (inpsB I (s + 1)))) W) := Lib.hid (fun h W => by
            have e2 : inpsB I (s + 1) = inpsB I s ++ inp3 I s := by show (if inpNZ I s then _ else _) = _; rw [if_pos h]
            rw [e2]; exact run_cat _ _ (by simp; omega) W)
          have HMask : Hid (inpNZ I s = true → (maskN I s ||| 2 ^ s) = maskN I (s + 1)) := Lib.hid (fun h => by show _ = (if inpNZ I s then _ else _); rw [if_pos h])
          have HSk : Hid (inpNZ I s = false → inpsB I (s + 1) = inpsB I s ∧ maskN I (s + 1) = maskN I s) := Lib.hid (fun h => by exact ⟨by show (if inpNZ I s then _ else _) = _; rw [if_neg (by simp [h])], by show (if inpNZ I s then _ else _) = _; rw [if_neg (by simp [h])]⟩)
          have hor := or_i64 (maskN I s) s (maskN_lt I s) hlt
          clear hA hlen
          obtain ⟨S1, hS1⟩ : ∃ S1, S1 = inpsB I (s + 1) := ⟨_, rfl⟩
          rw [← hS1] at HCat HSk
          have HS1 := Lib.hid hS1
          clear hS1
          generalize I (s * 3) = x at *
          generalize I (s * 3 + 1) = y at *
          generalize I (s * 3 + 2) = z at *
          rcases hx : (x == 0) with _ | _
          · skip
            have hnz : inpNZ I s = true := by rw [HNZ.out]; simp [hx]
            have tc : ∀ W, (Op.stringOp .add (strOfNums (inpsB I s)) (strOfNums [x % 256, y % 256, z])).run Try.prog W = .ok (.string (strOfNums S1)) W := HCat.out hnz
            have HM1 := Lib.hid (HMask.out hnz)
            clear hnz HNZ HCat HMask HSk
            go_wp2_with fail
            refine (putInput_any x y z hz _).mono ?_
            rintro e wp ⟨rfl, hb⟩
            replace HB := Lib.hid (HB.out.trans (hb.mono HB.out.size))
            replace HA := Lib.hid (HA.out.block (hb.block _ HA.out.lt))
            clear hb
            go_wp2_with fail
            exact ⟨⟨s + 1, by omega, rfl, by rw [← HM1.out], by rw [HS1.out], HA.out, HB.out⟩, by show 8 - (s + 1) < 8 - s; omega⟩
          obtain rfl := eq_of_beq hx
          rcases hy : (y == 0) with _ | _
          · skip
            have hnz : inpNZ I s = true := by rw [HNZ.out]; simp [hy]
            have tc : ∀ W, (Op.stringOp .add (strOfNums (inpsB I s)) (strOfNums [0, y % 256, z])).run Try.prog W = .ok (.string (strOfNums S1)) W := HCat.out hnz
            have HM1 := Lib.hid (HMask.out hnz)
            clear hnz HNZ HCat HMask HSk
            go_wp2_with fail
            refine (putInput_any 0 y z hz _).mono ?_
            rintro e wp ⟨rfl, hb⟩
            replace HB := Lib.hid (HB.out.trans (hb.mono HB.out.size))
            replace HA := Lib.hid (HA.out.block (hb.block _ HA.out.lt))
            clear hb
            go_wp2_with fail
            exact ⟨⟨s + 1, by omega, rfl, by rw [← HM1.out], by rw [HS1.out], HA.out, HB.out⟩, by show 8 - (s + 1) < 8 - s; omega⟩
          obtain rfl := eq_of_beq hy
          rcases hzz : (z == 0) with _ | _
          · skip
            have hnz : inpNZ I s = true := by rw [HNZ.out]; simp [hzz]
            have tc : ∀ W, (Op.stringOp .add (strOfNums (inpsB I s)) (strOfNums [0, 0, z])).run Try.prog W = .ok (.string (strOfNums S1)) W := HCat.out hnz
            have HM1 := Lib.hid (HMask.out hnz)
            clear hnz HNZ HCat HMask HSk
            go_wp2_with fail
            refine (putInput_any 0 0 z hz _).mono ?_
            rintro e wp ⟨rfl, hb⟩
            replace HB := Lib.hid (HB.out.trans (hb.mono HB.out.size))
            replace HA := Lib.hid (HA.out.block (hb.block _ HA.out.lt))
            clear hb
            go_wp2_with fail
            exact ⟨⟨s + 1, by omega, rfl, by rw [← HM1.out], by rw [HS1.out], HA.out, HB.out⟩, by show 8 - (s + 1) < 8 - s; omega⟩
          obtain rfl := eq_of_beq hzz
          have hnz : inpNZ I s = false := by rw [HNZ.out]; rfl
          have HS2 := Lib.hid (HSk.out hnz)
          clear hnz HNZ HCat HMask HSk
          go_wp2_with fail
          exact ⟨⟨s + 1, by omega, rfl, by rw [HS2.out.2], by rw [← HS2.out.1, HS1.out], HA.out, HB.out⟩, by show 8 - (s + 1) < 8 - s; omega⟩
        · obtain rfl : s = 8 := by omega
          have hmk := maskN_lt I 8
          have hlen := inpsB_len I 8
          have um : IntKind.u64.wrap (maskN I 8 : Int) = (maskN I 8 : Int) := by simp [IntKind.wrap, IntKind.bits, IntKind.signed]; omega
          have HF : Hid (0 ≤ (maskN I 8 : Int) ∧ (maskN I 8 : Int) < 18446744073709551616) := Lib.hid (by omega)
          have hm : (maskN I 8 : Int) % 256 = (maskN I 8 : Int) := by omega
          obtain ⟨S0, h0⟩ : ∃ S, S = headB fr k ++ evsB E k := ⟨_, rfl⟩
          obtain ⟨S1, h1⟩ : ∃ S, S = S0 ++ [(maskN I 8 : Int)] := ⟨_, rfl⟩
          have l0 : S0.length ≤ 100 := by rw [h0, List.length_append, evsB_len]; show 5 + _ ≤ _; omega
          have t1 : ∀ W, (Op.stringOp .add (strOfNums S0) (strOfNums [(maskN I 8 : Int)])).run Try.prog W = .ok (.string (strOfNums S1)) W := by rw [h1]; exact run_cat _ _ (by simp; omega)
          have t2 : ∀ W, (Op.stringOp .add (strOfNums S1) (strOfNums (inpsB I 8))).run Try.prog W = .ok (.string (strOfNums (putB fr k E I))) W := by
            have : putB fr k E I = S1 ++ inpsB I 8 := by rw [h1, h0]; unfold putB putS; simp
            rw [this]; exact run_cat _ _ (by rw [h1]; simp; omega)
          rw [← h0]
          clear hA h0 h1 hlen hmk l0
          generalize (maskN I 8 : Int) = M at *
          go_wp2_with fail
          refine (num1 M HF.out _).mono ?_
          rintro e wp ⟨rfl, hb⟩
          rw [hm]
          replace HB := Lib.hid (HB.out.trans (hb.mono HB.out.size))
          clear hb
          go_wp2_with fail
          go_ret
          exact ⟨rfl, HB.out⟩
end Go.Proofs.Ytmhgkkfeohaojaa
