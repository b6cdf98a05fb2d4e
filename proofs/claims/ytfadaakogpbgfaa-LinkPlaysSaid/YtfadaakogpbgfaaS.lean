/-
  Link: LinkMany.
-/
import Derived.Test.YtfadaakogpbgfaaR
namespace Go.Proofs.Ytfadaakogpbgfaa
set_option linter.unusedVariables false
open Go.ChangeShapes Go.WideShapes Go.ChangeAt Go.RowKit Go.Sort

def many (j : Nat) : List Int := (((List.range j).map fun k : Nat => (k : Int) + 1)).drop (j - 64)
theorem many_len (j : Nat) : (many j).length = j - (j - 64) := by simp [many]
theorem many_le (j : Nat) : (many j).length ≤ 64 := by rw [many_len]; omega
theorem many_next (j : Nat) : cut64 (many j ++ [(j : Int) + 1]) = many (j + 1) := by
  have h1 : many j ++ [(j : Int) + 1] = (((List.range (j + 1)).map fun k : Nat => (k : Int) + 1)).drop (j - 64) := by
    rw [List.range_succ, List.map_append, List.drop_append_of_le_length (by simp)]
    rfl
  unfold cut64
  rw [h1]
  unfold many
  rw [List.drop_drop]
  have e : (j - 64 + ((List.drop (j - 64) (List.map (fun k : Nat => (k : Int) + 1) (List.range (j + 1)))).length - 64)) = j + 1 - 64 := by simp; omega
  rw [e]
theorem many_get (j i : Nat) (hi : i < (many j).length) : (many j).getD i 0 = ((j - 64 + i : Nat) : Int) + 1 := by
  rw [many_len] at hi
  unfold many
  rw [List.getD_eq_getElem?_getD, List.getElem?_drop, List.getElem?_map, List.getElem?_range (by omega)]
  rfl
theorem many_mem (j : Nat) (x : Int) (hx : x ∈ many j) : 1 ≤ x ∧ x ≤ j := by
  unfold many at hx
  have := List.mem_of_mem_drop hx
  rw [List.mem_map] at this
  obtain ⟨k, hk, rfl⟩ := this
  rw [List.mem_range] at hk
  omega
theorem many_nodup (j : Nat) : (many j).Nodup := by
  unfold many
  refine List.Sublist.nodup (List.drop_sublist _ _) ?_
  have h : List.Pairwise (fun a b : Nat => a < b) (List.range j) := List.pairwise_lt_range
  unfold List.Nodup
  rw [List.pairwise_map]
  exact h.imp (fun hab e => by omega)
theorem told_one (x a : Int) (h0 : 1 ≤ x) (h1 : x ≤ 200) (g0 : 1 ≤ a) (g1 : a ≤ 200) : toldF x a 0 = (x == a) := by
  have := toldF_eq x a 0 (by decide)
  rw [show ((0 : Nat) : Int) = 0 from rfl] at this
  rw [this]
  unfold toldN
  rw [Nat.zero_testBit, Bool.and_false, Bool.or_false]
  have hw := way_eq x a
  by_cases e : x = a
  · have h : way x a = 0 := by omega
    rw [h, e]; simp
  · have h : ¬ way x a = 0 := by omega
    rw [beq_eq_false_iff_ne.mpr h, beq_eq_false_iff_ne.mpr e]
theorem many_less (j : Nat) (hj : j ≤ 200) (a : Int) (ha : a ∈ many j) : ((many j).filter fun x => !toldF x a 0).length = (many j).length - 1 := by
  have hA := many_mem j a ha
  have e : ((many j).filter fun x => !toldF x a 0) = (many j).filter (fun x => x != a) := by
    refine List.filter_congr fun x hx => ?_
    have hX := many_mem j x hx
    rw [told_one x a (by omega) (by omega) (by omega) (by omega)]
    rfl
  rw [e, ← (many_nodup j).erase_eq_filter, List.length_erase_of_mem ha]
set_option maxHeartbeats 1000000 in
theorem law_LinkMany (a0 a1 : Int) (w : World) (w0 : (Lit.int .i64 a0).wf = true) (w1 : (Lit.int .i64 a1).wf = true) :
    Calls Try.prog 5 #[.int .i64 a0, .int .i64 a1] w fun e w' => e = .returned (.bool true) ∧ Below w.heap.size w w' := by
  have hU : 0 ≤ IntKind.u64.wrap a0 := by simp [IntKind.wrap, IntKind.bits, IntKind.signed]; omega
  have hU1 : 0 ≤ IntKind.u64.wrap a1 := by simp [IntKind.wrap, IntKind.bits, IntKind.signed]; omega
  obtain ⟨k, hk⟩ : ∃ k : Nat, (k : Int) = IntKind.u64.wrap a0 % 201 := ⟨(IntKind.u64.wrap a0 % 201).toNat, by omega⟩
  have hk1 : k ≤ 200 := by omega
  have Hk := Lib.hid hk
  clear w0 w1 hk
  go_enter Try.func5, Try.ntmps5
  go_wp2_with fail
  refine (one_new 0 _).mono ?_
  rintro e w1 ⟨rfl, O1⟩
  generalize hb : w.heap.size = B at O1 ⊢
  have HB := Lib.hid hb
  clear hb
  have O1 := Lib.hid O1
  go_wp2_with fail
  rw [← Hk.out]
  go_loopw [7] (fun i wr => ∃ n : Nat, n ≤ k ∧ i = .int .i64 ((n : Int) + 1) ∧ One w wr B ((n : Int) + 1) 0 0 0 false (many n)) (fun i _ => 201 - (intOf i).toNat)
  case atStart => exact ⟨0, by omega, rfl, O1.out⟩
  case round =>
    obtain ⟨n, hn, rfl, O⟩ := hrel
    have HO := Lib.hid O
    clear O O1
    by_cases hlt : n < k
    · go_wp2_with fail
      refine (one_stamp HO.out (many_le n)).mono ?_
      rintro e w2 ⟨rfl, O2⟩
      rw [many_next, show IntKind.u16.wrap ((n : Int) + 1 + 1) = ((n + 1 : Nat) : Int) + 1 from by rw [wrap_u16]; omega] at O2
      have O2 := Lib.hid O2
      go_wp2_with fail
      all_goals first | exact ⟨⟨n + 1, by omega, by go_num, O2.out⟩, by simp [intOf]; omega⟩ | exact ⟨n + 1, by omega, by go_num, O2.out⟩ | (simp [intOf]; omega) | go_roundw
    · obtain rfl : n = k := by omega
      go_wp2_with fail
      refine (one_open HO.out (many_le n)).mono ?_
      rintro e w2 ⟨v, rfl, ho, O2⟩
      have HO2 := Lib.hid O2
      have hml := many_len n
      have HG := Lib.hid (many_get n)
      have HL := Lib.hid (many_less n hk1)
      have HE := Lib.hid (many_le n)
      clear O2
      have hv : ∃ a c, v = .slice a (many n).length c ∧ (0 < (many n).length → ∃ g off, a = some ⟨g, off, none⟩ ∧ g < w2.heap.size ∧ ∀ i, i < (many n).length → w2.cell? ⟨g, off + i, none⟩ = some (.int .u16 ((many n).getD i 0))) := by
        rcases ho with ⟨rfl, hc⟩ | ⟨g, off, cap, rfl, hg1, hg2, hr⟩
        · rw [hc]; exact ⟨none, 0, rfl, fun h => absurd h (by decide)⟩
        · exact ⟨_, _, rfl, fun _ => ⟨g, off, rfl, hg2, hr.cell⟩⟩
      clear ho
      obtain ⟨a, c, rfl, hcell⟩ := hv
      have HC := Lib.hid hcell
      clear hcell
      have hmem : ∀ i, i < (many n).length → (many n).getD i 0 ∈ many n := fun i hi => by
        rw [List.getD_eq_getElem?_getD, List.getElem?_eq_getElem hi]; exact List.getElem_mem _
      have HM := Lib.hid hmem
      clear hmem
      generalize hL0 : (many n).length = L at *
      have HLL := Lib.hid hL0
      have hmin : ((L : Int) != min (n : Int) 64) = false := by
        rw [bne_eq_false_iff_eq, Int.min_def]; split <;> omega
      have hLn : L ≤ n := by omega
      have hL64 : L ≤ 64 := by omega
      have HML := Lib.hid hml
      clear hL0 hml
      go_wp2_with fail
      go_loopw [12] (fun i wr => ∃ j : Nat, j ≤ L ∧ i = .int .i64 j ∧ wr = w2) (fun i _ => L - (intOf i).toNat)
      case atStart => exact ⟨0, by omega, rfl, rfl⟩
      case round =>
        obtain ⟨j, hj, rfl, rfl⟩ := hrel
        by_cases hjl : j < L
        · obtain ⟨g, off, rfl, hg, hcc⟩ := HC.out (by omega)
          have hc := hcc j hjl
          rw [HG.out j hjl, show ((n - 64 + j : Nat) : Int) + 1 = (n : Int) - L + 1 + j from by have := HML.out; omega] at hc
          have hb : ((n : Int) - L + 1 + j != (n : Int) - L + 1 + j) = false := by simp
          clear hcc
          go_wp2_with fail
          all_goals first | exact ⟨⟨j + 1, by omega, by go_num, rfl⟩, by simp [intOf]; omega⟩ | exact ⟨j + 1, by omega, by go_num, rfl⟩ | (simp [intOf]; omega) | go_roundw
          all_goals first | exact ⟨j + 1, by omega, by go_num, trivial⟩ | (simp [intOf]; omega)
        · obtain rfl : j = L := by omega
          by_cases hz : j = 0
          · subst hz
            go_wp2_with fail
            refine (told_law _).mono ?_
            rintro e w3 ⟨rfl, hB⟩
            go_wp2_with fail
            go_ret
            exact ⟨rfl, by rw [HB.out]; exact (HO2.out.below hB).bel⟩
          · obtain ⟨g, off, rfl, hg, hcc⟩ := HC.out (by omega)
            obtain ⟨q, hq⟩ : ∃ q : Nat, (q : Int) = IntKind.u64.wrap a1 % j := ⟨(IntKind.u64.wrap a1 % j).toNat, by have := Int.emod_nonneg (IntKind.u64.wrap a1) (show (j : Int) ≠ 0 by omega); omega⟩
            have hq1 : q < j := by have := Int.emod_lt_of_pos (IntKind.u64.wrap a1) (show (0 : Int) < j by omega); omega
            have HQ := Lib.hid hq
            have hc := hcc q hq1
            have hx := HM.out q hq1
            generalize (many n).getD q 0 = x at hc hx
            have HX := Lib.hid hx
            have hqn : (wrap64 (IntKind.u64.wrap a1 % (j : Int))).toNat = q := by
              rw [← hq, show wrap64 (q : Int) = q from by unfold wrap64; omega]; omega
            have hbd : 0 ≤ wrap64 (IntKind.u64.wrap a1 % (j : Int)) ∧ wrap64 (IntKind.u64.wrap a1 % (j : Int)) < j := by
              rw [← hq, show wrap64 (q : Int) = q from by unfold wrap64; omega]; omega
            rw [← hqn] at hc
            clear hcc hq hx hqn
            go_wp2_with fail
            refine (one_hear HO2.out (many_le n) (by decide) _ _ _ _).mono ?_
            rintro e w3 ⟨rfl, O3⟩
            rw [show max (0 : Int) 4 = 4 from by decide] at O3
            have O3 := Lib.hid O3
            have hfl := HL.out x HX.out
            generalize hzs : ((many n).filter fun y => !toldF y x 0) = zs at O3 hfl
            go_wp2_with fail
            refine (one_open O3.out (by omega)).mono ?_
            rintro e w4 ⟨v4, rfl, ho4, O4⟩
            obtain ⟨a4, c4, rfl⟩ : ∃ a4 c4, v4 = .slice a4 zs.length c4 := by
              rcases ho4 with ⟨rfl, hc4⟩ | ⟨g4, off4, cap4, rfl, -, -, -⟩
              · rw [hc4]; exact ⟨none, 0, rfl⟩
              · exact ⟨_, _, rfl⟩
            have hzl : ((zs.length : Nat) : Int) = j - 1 := by omega
            have O4 := Lib.hid O4
            clear ho4 O3
            go_wp2_with fail
            refine (told_law _).mono ?_
            rintro e w5 ⟨rfl, hB⟩
            have O5 := Lib.hid (O4.out.below hB)
            go_wp2_with fail
            refine (one_quiet O5.out 4).mono ?_
            rintro e w' ⟨rfl, rfl⟩
            rw [show quietF 4 4 = 0 from by decide +kernel]
            go_wp2_with fail
            go_ret
            exact ⟨rfl, by rw [HB.out]; exact O5.out.bel⟩
end Go.Proofs.Ytfadaakogpbgfaa
