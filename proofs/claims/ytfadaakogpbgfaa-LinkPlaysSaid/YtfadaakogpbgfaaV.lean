/-
  Link: LinkTwo.
-/
import Derived.Test.YtfadaakogpbgfaaU
namespace Go.Proofs.Ytfadaakogpbgfaa
set_option linter.unusedVariables false
open Go.ChangeShapes Go.WideShapes Go.ChangeAt Go.RowKit Go.Sort

structure TwoW (w wr : World) (B C : Nat) (n tk : Nat) (vL : Value) : Prop where
  ex : ∃ (PA PB PL : Nat → Prop) (tA lA : Int) (mA : Nat) (isA : Bool) (tB lB : Int) (mB : Nat) (isB : Bool) (zB : List Int) (lost : List Int),
    St w wr B C PA PB PL ((n : Int) + 1) tA lA mA isA lost ((tk : Int) + 1) tB lB mB isB zB vL lost ∧ Two n tk lost isA lA isB lB mB ∧ zB.length ≤ 64 ∧ mA < 2 ^ 32 ∧ mB < 2 ^ 32
theorem cut_id {zs : List Int} (h : zs.length ≤ 64) : cut64 zs = zs := by unfold cut64; rw [show zs.length - 64 = 0 by omega]; rfl
theorem cut_len (zs : List Int) : (cut64 zs).length ≤ 64 := by unfold cut64; simp; omega
set_option maxHeartbeats 4000000 in
theorem law_LinkTwo (a0 : Option Addr) (len0 cap0 : Nat) (z0 : List Int) (w : World) (w0 : IsRow .i64 w a0 len0 cap0 z0) :
    Calls Try.prog 4 #[.slice a0 len0 cap0] w fun e w' => e = .returned (.bool true) ∧ Below w.heap.size w w' := by
  have hel := fun h => w0.elem h
  have hle := w0.len_le
  unfold maxLen at hle
  clear w0
  have Hel := Lib.hid hel
  clear hel
  go_enter Try.func4, Try.ntmps4
  go_wp2_with fail
  refine (lk_new 0 _).mono ?_
  rintro e w1 ⟨rfl, hA, hs1, hb1⟩
  generalize hB0 : w.heap.size = B at *
  have HB := Lib.hid hB0
  have HA := Lib.hid (And.intro hA (And.intro hs1 hb1))
  clear hB0 hA hs1 hb1
  go_wp2_with fail
  refine (lk_new 0 _).mono ?_
  rintro e w2 ⟨rfl, hBB, hs2, hb2⟩
  obtain ⟨hA, hs1, hb1⟩ := HA.out
  generalize hC0 : w1.heap.size = C at *
  have o0 : St w w2 B C (fun k => k = B ∨ k = B + 1) (fun k => k = C ∨ k = C + 1) (fun _ => False) 1 0 0 0 false [] 1 0 0 0 false [] (.slice none 0 0) [] := by
    have f := Frame.of_below (by rw [hC0]; exact hb2) (fun _ => False)
    exact ⟨hA.frame f (fun _ _ h => h), hBB, Or.inl ⟨rfl, rfl⟩, fun _ h => h.elim, fun k h1 h2 => by omega, fun _ _ h => h, fun _ _ h => h, fun k h => by rcases h with h | h | h <;> first | omega | exact h.elim, hb1.trans (hb2.mono (by omega))⟩
  have O0 := Lib.hid o0
  clear HA hA hs1 hb1 hBB hs2 hb2 hC0 o0
  go_wp2_with fail
  go_loopw [5, 6, 7, 8] (fun vl sn tk i wr => ∃ n t : Nat, n ≤ len0 ∧ n ≤ 30 ∧ t ≤ n ∧ i = .int .i64 n ∧ sn = .int .i64 n ∧ tk = .int .i64 t ∧ TwoW w wr B C n t vl) (fun vl sn tk i _ => 30 - (intOf i).toNat)
  case atStart => exact ⟨0, 0, by omega, by omega, by omega, rfl, rfl, rfl, ⟨_, _, _, _, _, _, _, _, _, _, _, _, _, O0.out, ⟨rfl, Or.inl ⟨rfl, rfl⟩, Or.inl ⟨rfl, rfl, rfl⟩, fun x h => by cases h⟩, by decide, by decide, by decide⟩⟩
  case round =>
    obtain ⟨n, t, hn1, hn2, htn, rfl, rfl, rfl, ⟨PA, PB, PL, tA, lA, mA, isA, tB, lB, mB, isB, zB, lost, o1, hT, hzB, hmA, hmB⟩⟩ := hrel
    have hll : lost.length ≤ 30 := by have := hT.cnt; omega
    have O1 := Lib.hid o1
    have HT := Lib.hid hT
    have HZ := Lib.hid hzB
    have HMA := Lib.hid hmA
    have HMB := Lib.hid hmB
    clear o1 hT hzB hmA hmB O0
    by_cases hlt : n < len0
    · by_cases hlt2 : n < 30
      · obtain ⟨b, o, rfl, hbl, hcell, hwf⟩ := Hel.out (by omega)
        have hc := hcell n hlt
        have hbl' : b < B := hbl
        clear hcell hwf
        generalize z0.getD n 0 = x at *
        have HC := Lib.hid hc
        clear hc
        go_wp2_with fail
        refine (st_stampA O1.out (by omega)).mono ?_
        rintro e w3 ⟨rfl, PA1, o2⟩
        rw [show IntKind.u16.wrap ((n : Int) + 1 + 1) = ((n + 1 : Nat) : Int) + 1 from by rw [wrap_u16]; omega, cut_id (by simp; omega)] at o2
        have hc3 : w3.cell? ⟨b, o + n, none⟩ = some (.int .i64 x) := (o2.bel.cell (p := ⟨b, o + n, none⟩) hbl').trans HC.out
        have O2 := Lib.hid o2
        clear o2
        have hT1 := two_lost HT.out
        have hT2 := two_hear HT.out hlt2 HMB.out mA
        have HT1 := Lib.hid hT1
        have HT2 := Lib.hid hT2
        clear hT1 hT2
        cases hb1 : (bits BinOp.and IntKind.i64 x 1 == 1) with
        | true =>
          go_wp2_with (at_builtin; refine wpList_append_open _ rfl _ _ rfl PL _ lost (by omega) ?hO rfl _ _ ((n : Int) + 1) rfl ?hc ?h)
          case hO => exact (O2.out.below ((Below.refl _ w3).alloc (Nat.le_refl _) _)).l
          case hc => go_simp
          case h =>
            intro v4 w4 hO4 hF4
            have o4 := (O2.out.below ((Below.refl _ w3).alloc (Nat.le_refl _) _)).turnL hF4 (hO4.mono fun k hk => by simpa using hk)
            have hW : TwoW w w4 B C (n + 1) t v4 := ⟨_, _, _, _, _, _, _, _, _, _, _, _, _, o4, HT1.out, HZ.out, HMA.out, HMB.out⟩
            have HW := Lib.hid hW
            clear o4 hW hO4 hF4
            set_option maxRecDepth 20000 in go_wp2_with fail
            all_goals first | exact ⟨⟨n + 1, t, by omega, by omega, by omega, by go_num, by go_num, rfl, HW.out⟩, by simp [intOf]; omega⟩ | exact ⟨n + 1, t, by omega, by omega, by omega, by go_num, by go_num, rfl, HW.out⟩ | (simp [intOf]; omega) | go_roundw
        | false =>
          go_wp2_with fail
          refine (st_hearB O2.out HZ.out HMB.out _ _ _ _).mono ?_
          rintro e w4 ⟨rfl, PB3, o3⟩
          obtain ⟨t1, t2, t3, t4, t5, t6⟩ := HT2.out
          rw [t1]
          rw [t2] at o3
          have hm3 := noteM_lt isB lB ((n : Int) + 1) mB HMB.out
          have hz3 : (zB.filter fun x => !toldF x lA mA).length ≤ 64 := Nat.le_trans (List.length_filter_le _ _) HZ.out
          generalize (zB.filter fun x => !toldF x lA mA) = zB3 at o3 hz3
          generalize noteM isB lB ((n : Int) + 1) mB = M at o3 hm3 t5 t6
          have hc4 : w4.cell? ⟨b, o + n, none⟩ = some (.int .i64 x) := (o3.bel.cell (p := ⟨b, o + n, none⟩) hbl').trans HC.out
          have O3 := Lib.hid o3
          have HZ3 := Lib.hid hz3
          have HM := Lib.hid hm3
          have HN1 := Lib.hid t3
          have HN2 := Lib.hid t4
          have HN3 := Lib.hid t5
          have HT4 := Lib.hid t6
          clear o3 hz3 hm3 t1 t2 t3 t4 t5 t6
          cases hb2 : (bits BinOp.and IntKind.i64 x 2 == 2) with
          | true =>
            go_wp2_with fail
            refine (st_hearB O3.out HZ3.out HM.out _ _ _ _).mono ?_
            rintro e w4 ⟨rfl, PB4, o4⟩
            rw [(note_again _ _).1]
            rw [(note_again _ M).2.1, (note_again _ _).2.2] at o4
            have hz4 : (zB3.filter fun x => !toldF x lA mA).length ≤ 64 := Nat.le_trans (List.length_filter_le _ _) HZ3.out
            generalize (zB3.filter fun x => !toldF x lA mA) = zB4 at o4 hz4
            have O4 := Lib.hid o4
            have HZ4 := Lib.hid hz4
            clear o4 hz4
            go_wp2_with fail
            refine (st_stampB O4.out HZ4.out).mono ?_
            rintro e w5 ⟨rfl, PB5, o5⟩
            rw [show IntKind.u16.wrap ((t : Int) + 1 + 1) = ((t + 1 : Nat) : Int) + 1 from by rw [wrap_u16]; omega] at o5
            have O5 := Lib.hid o5
            clear o5
            go_wp2_with fail
            refine (st_hearA O5.out (by simp; omega) HMA.out _ _ _ _).mono ?_
            rintro e w6 ⟨rfl, PA6, o6⟩
            rw [HN1.out]
            rw [HN2.out, HN3.out] at o6
            have hW : TwoW w w6 B C (n + 1) (t + 1) u5 := ⟨_, _, _, _, _, _, _, _, _, _, _, _, _, o6, HT4.out, cut_len _, noteM_lt _ _ _ _ HMA.out, HM.out⟩
            have HW := Lib.hid hW
            clear o6 hW
            set_option maxRecDepth 20000 in go_wp2_with fail
            all_goals first | exact ⟨⟨n + 1, t + 1, by omega, by omega, by omega, by go_num, by go_num, by go_num, HW.out⟩, by simp [intOf]; omega⟩ | exact ⟨n + 1, t + 1, by omega, by omega, by omega, by go_num, by go_num, by go_num, HW.out⟩ | (simp [intOf]; omega) | go_roundw
          | false =>
            go_wp2_with fail
            refine (st_stampB O3.out HZ3.out).mono ?_
            rintro e w5 ⟨rfl, PB5, o5⟩
            rw [show IntKind.u16.wrap ((t : Int) + 1 + 1) = ((t + 1 : Nat) : Int) + 1 from by rw [wrap_u16]; omega] at o5
            have O5 := Lib.hid o5
            clear o5
            go_wp2_with fail
            refine (st_hearA O5.out (by simp; omega) HMA.out _ _ _ _).mono ?_
            rintro e w6 ⟨rfl, PA6, o6⟩
            rw [HN1.out]
            rw [HN2.out, HN3.out] at o6
            have hW : TwoW w w6 B C (n + 1) (t + 1) u5 := ⟨_, _, _, _, _, _, _, _, _, _, _, _, _, o6, HT4.out, cut_len _, noteM_lt _ _ _ _ HMA.out, HM.out⟩
            have HW := Lib.hid hW
            clear o6 hW
            set_option maxRecDepth 20000 in go_wp2_with fail
            all_goals first | exact ⟨⟨n + 1, t + 1, by omega, by omega, by omega, by go_num, by go_num, by go_num, HW.out⟩, by simp [intOf]; omega⟩ | exact ⟨n + 1, t + 1, by omega, by omega, by omega, by go_num, by go_num, by go_num, HW.out⟩ | (simp [intOf]; omega) | go_roundw
      · have e30 : n = 30 := by omega
        subst e30
        obtain ⟨a5, c5, rfl⟩ : ∃ a c, u5 = .slice a lost.length c := by
          rcases O1.out.l with ⟨rfl, hc⟩ | ⟨g, off, cap, rfl, -, -, -⟩
          · rw [hc]; exact ⟨none, 0, rfl⟩
          · exact ⟨_, _, rfl⟩
        have hq : ((t : Int) + ((lost.length : Nat) : Int) != 30) = false := by rw [bne_eq_false_iff_eq]; have := HT.out.cnt; omega
        go_wp2_with fail
        refine (st_stampB O1.out HZ.out).mono ?_
        rintro e w3 ⟨rfl, PB3, o3⟩
        have O3 := Lib.hid o3
        clear o3
        by_cases ht0 : 0 < t
        · go_wp2_with fail
          refine (st_hearA O3.out (by omega) HMA.out _ _ _ _).mono ?_
          rintro e w4 ⟨rfl, PA4, o4⟩
          rw [two_end HT.out hn2 ht0 HMB.out] at o4
          have O4 := Lib.hid o4
          clear o4
          go_wp2_with fail
          refine (told_law _).mono ?_
          rintro e w5 ⟨rfl, hb5⟩
          have O5 := Lib.hid (O4.out.below hb5)
          clear hb5
          go_wp2_with fail
          refine (lk_open O5.out.a (by omega)).mono ?_
          rintro e w6 ⟨v6, rfl, ho6, hb6⟩
          have O6 := Lib.hid (O5.out.below hb6)
          have HO6 := Lib.hid ho6
          clear hb6 ho6
          go_wp2_with fail
          refine (same_true _ _ _ _ lost (by omega) w6 HO6.out O6.out.l).mono ?_
          rintro e w7 ⟨rfl, hb7⟩
          have O7 := Lib.hid (O6.out.below hb7)
          clear hb7
          go_wp2_with fail
          go_ret
          exact ⟨rfl, by rw [HB.out]; exact O7.out.bel⟩
        · have e0 : t = 0 := by omega
          subst e0
          go_wp2_with fail
          refine (told_law _).mono ?_
          rintro e w5 ⟨rfl, hb5⟩
          have O5 := Lib.hid (O3.out.below hb5)
          clear hb5
          go_wp2_with fail
          refine (lk_open O5.out.a (by omega)).mono ?_
          rintro e w6 ⟨v6, rfl, ho6, hb6⟩
          have O6 := Lib.hid (O5.out.below hb6)
          have HO6 := Lib.hid ho6
          clear hb6 ho6
          go_wp2_with fail
          refine (same_true _ _ _ _ lost (by omega) w6 HO6.out O6.out.l).mono ?_
          rintro e w7 ⟨rfl, hb7⟩
          have O7 := Lib.hid (O6.out.below hb7)
          clear hb7
          go_wp2_with fail
          go_ret
          exact ⟨rfl, by rw [HB.out]; exact O7.out.bel⟩
    · have elen : n = len0 := by omega
      subst elen
      obtain ⟨a5, c5, rfl⟩ : ∃ a c, u5 = .slice a lost.length c := by
        rcases O1.out.l with ⟨rfl, hc⟩ | ⟨g, off, cap, rfl, -, -, -⟩
        · rw [hc]; exact ⟨none, 0, rfl⟩
        · exact ⟨_, _, rfl⟩
      have hq : ((t : Int) + ((lost.length : Nat) : Int) != (n : Int)) = false := by rw [bne_eq_false_iff_eq]; have := HT.out.cnt; omega
      go_wp2_with fail
      refine (st_stampB O1.out HZ.out).mono ?_
      rintro e w3 ⟨rfl, PB3, o3⟩
      have O3 := Lib.hid o3
      clear o3
      by_cases ht0 : 0 < t
      · go_wp2_with fail
        refine (st_hearA O3.out (by omega) HMA.out _ _ _ _).mono ?_
        rintro e w4 ⟨rfl, PA4, o4⟩
        rw [two_end HT.out hn2 ht0 HMB.out] at o4
        have O4 := Lib.hid o4
        clear o4
        go_wp2_with fail
        refine (told_law _).mono ?_
        rintro e w5 ⟨rfl, hb5⟩
        have O5 := Lib.hid (O4.out.below hb5)
        clear hb5
        go_wp2_with fail
        refine (lk_open O5.out.a (by omega)).mono ?_
        rintro e w6 ⟨v6, rfl, ho6, hb6⟩
        have O6 := Lib.hid (O5.out.below hb6)
        have HO6 := Lib.hid ho6
        clear hb6 ho6
        go_wp2_with fail
        refine (same_true _ _ _ _ lost (by omega) w6 HO6.out O6.out.l).mono ?_
        rintro e w7 ⟨rfl, hb7⟩
        have O7 := Lib.hid (O6.out.below hb7)
        clear hb7
        go_wp2_with fail
        go_ret
        exact ⟨rfl, by rw [HB.out]; exact O7.out.bel⟩
      · have e0 : t = 0 := by omega
        subst e0
        go_wp2_with fail
        refine (told_law _).mono ?_
        rintro e w5 ⟨rfl, hb5⟩
        have O5 := Lib.hid (O3.out.below hb5)
        clear hb5
        go_wp2_with fail
        refine (lk_open O5.out.a (by omega)).mono ?_
        rintro e w6 ⟨v6, rfl, ho6, hb6⟩
        have O6 := Lib.hid (O5.out.below hb6)
        have HO6 := Lib.hid ho6
        clear hb6 ho6
        go_wp2_with fail
        refine (same_true _ _ _ _ lost (by omega) w6 HO6.out O6.out.l).mono ?_
        rintro e w7 ⟨rfl, hb7⟩
        have O7 := Lib.hid (O6.out.below hb7)
        clear hb7
        go_wp2_with fail
        go_ret
        exact ⟨rfl, by rw [HB.out]; exact O7.out.bel⟩
end Go.Proofs.Ytfadaakogpbgfaa
