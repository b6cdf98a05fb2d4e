/-
  Roster: RosterFree.
-/
import Derived.Test.YthjabcogbjdkiaaO
namespace Go.Proofs.Ythjabcogbjdkiaa
set_option linter.unusedVariables false
open Go.ChangeShapes Go.WideShapes Go.ChangeAt Go.RowKit Go.Sort

section
variable {Pg : Program} {ops : Array Oper} {C : World → Prop}
theorem quiet_load_ros {Q : Act → Prop} {a : Act} {o : Oper} {rest : List Oper} (hw : Region.wanted o (yielded ops a.tmps) = true) (x : Operand) (ho : o.op = .load 27 x) (b : Nat) (hx : a.eval x = .pointer (some ⟨b, 0, none⟩)) (cs : List Value)
    (hc : ∀ w, C w → w.rangeAt b 0 cs) (hi : (Try.prog.info? 27).map (·.size) = some cs.length) (h : wpQuiet Try.prog ops C Q rest (a.put o.dst (.agg cs.toArray))) : wpQuiet Try.prog ops C Q (o :: rest) a :=
  wpQuiet_step fun K hK => by
    rw [if_pos hw]
    refine ⟨.agg cs.toArray, fun w hC => ?_, hK _ h⟩
    unfold Oper.quietAt execOp
    simp only [ho, hx, Instr.loadAt, Instr.sureAddr, Sem.run_bind, Sem.run_pure, Result.andThen_ok, run_loadVar_mid (P := Try.prog) w b 0 27 cs _ (hc w hC) Try.underlying27 rfl hi]
    exact ⟨rfl, rfl⟩
end
theorem mask_v (v : Int) (P G : Nat → Int) (w : World) : Calls Try.prog 13 #[.agg (rosL v P G).toArray] w fun e w' => e = .returned (.int .i64 (maskR v P G)) ∧ Below w.heap.size w w' := mask_any v P G w
theorem maskN_upd (P : Nat → Int) (q : Nat) (x : Int) (hx : 0 ≤ x) (hp : P q < 0) : ∀ n, (maskN (updI P q x) n = if q < n then maskN P n ||| 2 ^ q else maskN P n) := by
  intro n
  induction n with
  | zero => rw [if_neg (by omega)]; rfl
  | succ n ih =>
    rw [maskN_next, maskN_next, ih]
    by_cases e : n = q
    · subst e
      rw [updI_eq, if_pos hx, if_neg (Nat.lt_irrefl n), if_pos (Nat.lt_succ_self n), if_neg (show ¬ 0 ≤ P n by omega)]
    · rw [updI_ne _ _ e]
      by_cases h : q < n
      · rw [if_pos h, if_pos (show q < n + 1 by omega)]
        by_cases h2 : 0 ≤ P n
        · simp only [if_pos h2]
          rw [Nat.or_assoc, Nat.or_comm (2 ^ q), ← Nat.or_assoc]
        · simp only [if_neg h2]
      · rw [if_neg h, if_neg (show ¬ q < n + 1 by omega)]
/-- What the end of RosterFree calls, where the slot was taken. -/
theorem free_facts {v : Int} {q : Nat} {P G : Nat → Int} (h : takeR v P G q 0 = true) :
    v < 1073741824 ∧
    (∀ w, Calls Try.prog 7 #[.agg (rosL v P G).toArray, .int .i64 0] w fun e w' => e = .returned (.int .i64 (-1)) ∧ Below w.heap.size w w') ∧
    (∀ w, Calls Try.prog 7 #[.agg (rosL (v + 1) (updI P q 0) (updI G q (G q + 1))).toArray, .int .i64 0] w fun e w' => e = .returned (.int .i64 q) ∧ Below w.heap.size w w') ∧
    maskR v P G < 2 ^ 8 ∧ maskR (v + 1) (updI P q 0) (updI G q (G q + 1)) = maskR v P G ||| 2 ^ q := by
  have hm2 := take_may h
  have h' := h
  unfold takeR at h
  simp only [Bool.and_eq_true, decide_eq_true_eq, Int.toNat_natCast] at h
  obtain ⟨⟨⟨⟨hs, h1⟩, h2⟩, hall⟩, hg⟩ := h
  rw [all_ne] at hall
  obtain ⟨n', hnn, hn, hm, hv0, hv1, hpn⟩ := seat_slot hs
  obtain rfl : q = n' := by omega
  have hpq : P q < 0 := by have := of_decide_eq_false hpn; omega
  refine ⟨hv1, fun w => ?_, fun w => ?_, ?_, ?_⟩
  · refine (of_v v 0 P G w).mono ?_
    rintro e w' ⟨⟨r, rfl, hr⟩, hb⟩
    refine ⟨?_, hb⟩
    rcases hr with ⟨rfl, -⟩ | ⟨n, hn', rfl, h3, -⟩
    · rfl
    · exact absurd h3 (hall n hn')
  · refine (of_v (v + 1) 0 (updI P q 0) (updI G q (G q + 1)) w).mono ?_
    rintro e w' ⟨⟨r, rfl, hr⟩, hb⟩
    refine ⟨?_, hb⟩
    rcases hr with ⟨rfl, h3 | h3 | h3⟩ | ⟨n, hn', rfl, h3, -⟩
    · omega
    · rw [hm2] at h3; cases h3
    · exact absurd (updI_eq P q 0) (h3 q hn)
    · by_cases e : n = q
      · subst e; rfl
      · rw [updI_ne _ _ e] at h3; exact absurd h3 (hall n hn')
  · unfold maskR; rw [hm]; exact maskN_lt P 8 (by decide)
  · unfold maskR; rw [hm, hm2]
    show maskN _ 8 = maskN P 8 ||| 2 ^ q
    rw [maskN_upd P q 0 (by decide) hpq 8, if_pos hn]
/-- And where it was not. -/
theorem free_facts2 {v : Int} {q : Nat} {P G : Nat → Int} (h : takeR v P G q 0 = false) (hm : mayR v P G = true) (hq : q < 8) (hp : P q = -1) (hg : G q < 60000) :
    ((∀ w, Calls Try.prog 7 #[.agg (rosL v P G).toArray, .int .i64 0] w fun e w' => e = .returned (.int .i64 (-1)) ∧ Below w.heap.size w w') ∧ ¬ v < 1073741824) ∨
    ∃ n : Nat, ∀ w, Calls Try.prog 7 #[.agg (rosL v P G).toArray, .int .i64 0] w fun e w' => e = .returned (.int .i64 (n : Int)) ∧ Below w.heap.size w w' := by
  have hgood := ((may_iff v P G).1 hm).2
  by_cases hall : ∀ n, n < 8 → P n ≠ 0
  · left
    refine ⟨fun w => ?_, fun hv => ?_⟩
    · refine (of_v v 0 P G w).mono ?_
      rintro e w' ⟨⟨r, rfl, hr⟩, hb⟩
      refine ⟨?_, hb⟩
      rcases hr with ⟨rfl, -⟩ | ⟨n, hn', rfl, h3, -⟩
      · rfl
      · exact absurd h3 (hall n hn')
    · have hs : seatR v P G q false = true := by
        unfold seatR
        rw [hm, decide_eq_true hv, decide_eq_true (show (0 : Int) ≤ (q : Int) by omega), decide_eq_true (show (q : Int) < 8 by omega), Int.toNat_natCast, hp]
        rfl
      have ha := (all_ne P 0).2 hall
      unfold takeR at h
      rw [hs, ha, Int.toNat_natCast, decide_eq_true hg] at h
      revert h; decide
  · right
    obtain ⟨n0, hn0⟩ := Classical.not_forall.1 hall
    have hn1 : n0 < 8 := Classical.byContradiction fun hc => hn0 (fun h => absurd h hc)
    have hn2 : P n0 = 0 := Classical.byContradiction fun hc => hn0 (fun _ => hc)
    refine ⟨n0, fun w => ?_⟩
    refine (of_v v 0 P G w).mono ?_
    rintro e w' ⟨⟨r, rfl, hr⟩, hb⟩
    refine ⟨?_, hb⟩
    rcases hr with ⟨-, h3 | h3 | h3⟩ | ⟨n, hn', rfl, h3, -⟩
    · omega
    · rw [hm] at h3; cases h3
    · exact absurd hn2 (h3 n0 hn1)
    · by_cases e : n = n0
      · subst e; rfl
      · exact absurd (h3.trans hn2.symm) (good_apart hgood n n0 hn' hn1 e (by omega))
set_option maxHeartbeats 2000000 in
theorem law_RosterFree (v0 : Value) (w : World) (w0 : IsRos w v0) :
    Calls Try.prog 4 #[v0] w fun e w' => e = .returned (.bool true) ∧ Below w.heap.size w w' := by
  obtain ⟨v, P, G, rfl⟩ := w0
  unfold rosV
  go_enter Try.func4, Try.ntmps4
  go_wp2_with (refine wpList_load_g (by rfl) 27 _ rfl w.heap.size 0 rfl _ _ (rosAt_new v P G 27 w).range Try.underlying27 rfl (size_27 _ _ _) ?_)
  have HR0 := Lib.hid (rosAt_new v P G 27 w)
  have HB := Lib.hid ((Below.refl w.heap.size w).alloc (Nat.le_refl _) (Obj.cells (rosL v P G).toArray 27))
  generalize w.alloc (Obj.cells (rosL v P G).toArray 27) = w1 at *
  refine (may_v v P G _).mono ?_
  rintro e wA ⟨rfl, hbA⟩
  replace HR0 := Lib.hid (HR0.out.block (hbA.block _ HR0.out.lt))
  replace HB := Lib.hid (HB.out.trans (hbA.mono HB.out.size))
  clear hbA
  cases hm : mayR v P G with
  | false =>
    clear hm
    go_wp2_with fail
    refine (told_law _).mono ?_
    rintro e wT ⟨rfl, hbA⟩
    replace HR0 := Lib.hid (HR0.out.block (hbA.block _ HR0.out.lt))
    replace HB := Lib.hid (HB.out.trans (hbA.mono HB.out.size))
    clear hbA
    go_wp2_with fail
    go_ret
    exact ⟨rfl, HB.out⟩
  | true =>
    go_wp2_with (refine wpList_load_g (by rfl) 27 _ rfl w.heap.size 0 rfl _ _ HR0.out.range Try.underlying27 rfl (size_27 _ _ _) ?_)
    refine (free_any v P G _).mono ?_
    rintro e wB ⟨⟨r, rfl, hf⟩, hbA⟩
    replace HR0 := Lib.hid (HR0.out.block (hbA.block _ HR0.out.lt))
    replace HB := Lib.hid (HB.out.trans (hbA.mono HB.out.size))
    clear hbA
    have hfn : FreeN P G 8 r := by
      rcases hf with ⟨h, -⟩ | ⟨-, h⟩
      · rw [hm] at h; cases h
      · exact h
    have HFN := Lib.hid hfn
    have HM := Lib.hid hm
    clear hf hm hfn
    go_wp2_with fail
    go_loopw [4] (fun i wr => ∃ n : Nat, n ≤ 8 ∧ i = .int .i64 n ∧ RosAt wr w.heap.size v P G ∧ Below w.heap.size w wr) (fun i _ => 8 - (intOf i).toNat)
    case atStart => exact ⟨0, by omega, rfl, HR0.out, HB.out⟩
    case round =>
      obtain ⟨n, hn, rfl, hra, hB⟩ := hrel
      clear HR0 HB
      by_cases hlt : n < 8
      · have cp := hra.p n hlt
        have cg := hra.g n hlt
        have hr := may_range HM.out n hlt
        have HW := Lib.hid (And.intro hra hB)
        by_cases hp : 0 ≤ P n
        · have dp := decide_eq_true hp
          clear hra hB
          go_wp2_with fail
          all_goals first | exact ⟨⟨n + 1, by omega, by go_num, HW.out.1, HW.out.2⟩, by simp [intOf]; omega⟩ | exact ⟨n + 1, by omega, by go_num, HW.out.1, HW.out.2⟩ | (simp [intOf]; omega) | go_roundw
          all_goals first | exact ⟨n + 1, by omega, by go_num, HW.out.1, HW.out.2⟩ | (simp [intOf]; omega)
        · have dp := decide_eq_false hp
          have hp1 : P n = -1 := by omega
          rcases HFN.out with ⟨rfl, h2⟩ | ⟨q, h1, rfl, h3, h4, h5, h6⟩
          · have hg : G n = 60000 := by have := h2 n hlt hp1; omega
            rw [hg] at cg
            clear hra hB h2
            go_wp2_with fail
            all_goals first | exact ⟨⟨n + 1, by omega, by go_num, HW.out.1, HW.out.2⟩, by simp [intOf]; omega⟩ | exact ⟨n + 1, by omega, by go_num, HW.out.1, HW.out.2⟩ | (simp [intOf]; omega) | go_roundw
            all_goals first | exact ⟨n + 1, by omega, by go_num, HW.out.1, HW.out.2⟩ | (simp [intOf]; omega)
          · have cq := hra.g q h1
            have hqI : ¬ (q : Int) < 0 := by omega
            have hqI8 : (q : Int) < 8 := by omega
            have e1 : decide (G n < G q) = false := decide_eq_false (by
              by_cases hg : G n < 60000
              · have := h5 n hlt hp1 hg; omega
              · omega)
            have e2 : (G n = G q → ¬ n < q) := fun he h => by have := h6 n h hp1 (by omega); omega
            have HRA := Lib.hid hra
            have HBr := Lib.hid hB
            clear hra hB h3 h4 h5 h6 hr hp1 HW
            by_cases hE : G n = G q
            · have dE : (G n == G q) = true := by rw [hE]; simp
              have hnq : ¬ n < q := e2 hE
              have dE2 : decide ((n : Int) < q) = false := decide_eq_false (by have := e2 hE; omega)
              clear hE e2
              generalize G n = g at *
              generalize G q = g2 at *
              have kg := cell_regrown cg
              have kq := cell_regrown cq
              go_wp2_with fail
              refine wp_region_quiet_below (by kernel_rfl) (by kernel_rfl) ?_
              repeat (go_big_quiet_step (fail))
              refine wpQuiet_nil ?_
              intro _ hw'
              obtain ⟨⟨nq, osq⟩, hw3⟩ := hw'
              have HW := Lib.hid (And.intro (HRA.out.block ((below_regrown wr nq osq).block _ HRA.out.lt)) (HBr.out.trans ((below_regrown wr nq osq).mono HBr.out.size)))
              rw [← hw3] at HW
              clear hw3 kg kq HRA HBr cp cg cq
              go_wp2_with fail
              all_goals first | exact ⟨⟨n + 1, by omega, by go_num, HW.out.1, HW.out.2⟩, by simp [intOf]; omega⟩ | exact ⟨n + 1, by omega, by go_num, HW.out.1, HW.out.2⟩ | (simp [intOf]; omega) | go_roundw
              all_goals first | exact ⟨n + 1, by omega, by go_num, HW.out.1, HW.out.2⟩ | (simp [intOf]; omega)
            · have dE : (G n == G q) = false := beq_eq_false_iff_ne.mpr hE
              clear hE e2
              generalize G n = g at *
              generalize G q = g2 at *
              have kg := cell_regrown cg
              have kq := cell_regrown cq
              go_wp2_with fail
              refine wp_region_quiet_below (by kernel_rfl) (by kernel_rfl) ?_
              repeat (go_big_quiet_step (fail))
              refine wpQuiet_nil ?_
              intro _ hw'
              obtain ⟨⟨nq, osq⟩, hw3⟩ := hw'
              have HW := Lib.hid (And.intro (HRA.out.block ((below_regrown wr nq osq).block _ HRA.out.lt)) (HBr.out.trans ((below_regrown wr nq osq).mono HBr.out.size)))
              rw [← hw3] at HW
              clear hw3 kg kq HRA HBr cp cg cq
              go_wp2_with fail
              all_goals first | exact ⟨⟨n + 1, by omega, by go_num, HW.out.1, HW.out.2⟩, by simp [intOf]; omega⟩ | exact ⟨n + 1, by omega, by go_num, HW.out.1, HW.out.2⟩ | (simp [intOf]; omega) | go_roundw
              all_goals first | exact ⟨n + 1, by omega, by go_num, HW.out.1, HW.out.2⟩ | (simp [intOf]; omega)
      · obtain rfl : n = 8 := by omega
        have HR0 := Lib.hid hra
        have HB := Lib.hid hB
        clear hra hB
        rcases HFN.out with ⟨rfl, h2⟩ | ⟨q, h1, rfl, h3, h4, h5, h6⟩
        · clear h2
          go_wp2_with fail
          refine (told_law _).mono ?_
          rintro e wT ⟨rfl, hbA⟩
          replace HB := Lib.hid (HB.out.trans (hbA.mono HB.out.size))
          clear hbA
          go_wp2_with fail
          go_ret
          exact ⟨rfl, HB.out⟩
        · have hqI : ¬ (q : Int) < 0 := by omega
          have hqI8 : (q : Int) < 8 := by omega
          clear h5 h6
          go_wp2_with (refine wpList_load_g (by rfl) 27 _ rfl w.heap.size 0 rfl _ _ HR0.out.range Try.underlying27 rfl (size_27 _ _ _) ?_)
          cases htk : takeR v P G q 0 with
          | false =>
            refine (take_no v q 0 P G htk _).mono ?_
            rintro e wA ⟨rfl, hbA⟩
            replace HR0 := Lib.hid (HR0.out.block (hbA.block _ HR0.out.lt))
            replace HB := Lib.hid (HB.out.trans (hbA.mono HB.out.size))
            clear hbA
            have HTK := Lib.hid htk
            clear htk
            try unfold rosV
            have hB := HB.out
            have HR0x := HR0.out
            have hz : RosAt (wA.alloc (Obj.cells #[.int .i64 0, .int .i64 0, .int .i64 0, .int .i64 0, .int .i64 0, .int .i64 0, .int .i64 0, .int .i64 0, .int .i64 0, .int .i64 0, .int .i64 0, .int .i64 0, .int .i64 0, .int .i64 0, .int .i64 0, .int .i64 0, .int .i64 0] 27)) wA.heap.size 0 (fun _ => 0) (fun _ => 0) := rosAt_new 0 (fun _ => 0) (fun _ => 0) 27 wA
            have HST := Lib.hid (run_store_ros hz.there (v) (P) (G))
            have hW := below_setCells wA.heap.size (Nat.le_refl _) (rosL (v) (P) (G)) 0 ((Below.refl _ wA).alloc (Nat.le_refl _) (Obj.cells #[.int .i64 0, .int .i64 0, .int .i64 0, .int .i64 0, .int .i64 0, .int .i64 0, .int .i64 0, .int .i64 0, .int .i64 0, .int .i64 0, .int .i64 0, .int .i64 0, .int .i64 0, .int .i64 0, .int .i64 0, .int .i64 0, .int .i64 0] 27))
            replace HR0 := Lib.hid (HR0x.block (hW.block _ HR0x.lt))
            clear HR0x
            have HR5 := Lib.hid (rosAt_stored hz.there (v) (P) (G))
            replace HB := Lib.hid (hB.trans (hW.mono hB.size))
            clear hB hW hz
            go_wp2_with fail
            rw [HST.out]
            clear HST
            generalize ((wA.alloc (Obj.cells #[.int .i64 0, .int .i64 0, .int .i64 0, .int .i64 0, .int .i64 0, .int .i64 0, .int .i64 0, .int .i64 0, .int .i64 0, .int .i64 0, .int .i64 0, .int .i64 0, .int .i64 0, .int .i64 0, .int .i64 0, .int .i64 0, .int .i64 0] 27)).setCells wA.heap.size 0 (rosL (v) (P) (G))) = w5 at *
            generalize wA.heap.size = t5 at *
            clear wA
            have cp := cell_regrown (HR0.out.p q h1)
            rw [h3] at cp
            have c0 := cell_regrown HR0.out.c0
            rcases free_facts2 HTK.out HM.out h1 h3 h4 with ⟨f1, f2⟩ | ⟨n0, f1⟩
            ·
              have dv : decide (v < 1073741824) = false := decide_eq_false f2
              clear f2
              have HF1 := Lib.hid f1
              clear f1 h3 h4 HTK
              go_wp2_with fail
              have HX := Lib.hid (fun d os => (HR5.out.block ((below_regrown w5 d os).block _ HR5.out.lt)).range)
              have HY := Lib.hid (fun d os => (HR0.out.block ((below_regrown w5 d os).block _ HR0.out.lt)).range)
              have HsX := Lib.hid (size_27 (v) P G)
              have HsY := Lib.hid (size_27 v P G)
              clear HR5 HR0
              generalize rosL v P G = Y at *
              refine wp_region_quiet_below (by kernel_rfl) (by kernel_rfl) ?_
              iterate 16 (go_big_quiet_step (exact Calls.regrown_of (told_law _)))
              refine quiet_load_ros (by rfl) _ rfl w.heap.size rfl Y (by rintro w' ⟨p, rfl⟩; exact HY.out p.d p.os) HsY.out ?_
              try simp only [Act.put, List.setIfInBounds_toArray, List.set_cons_zero, List.set_cons_succ]
              repeat (go_big_quiet_step (exact Calls.regrown_of (HF1.out _)))
              refine wpQuiet_nil ?_
              intro _ hw'
              obtain ⟨⟨nq, osq⟩, hw3⟩ := hw'
              have HBE := Lib.hid (HB.out.trans ((below_regrown _ nq osq).mono HB.out.size))
              rw [← hw3] at HBE
              clear hw3
              go_wp2_with fail
              go_ret
              exact ⟨by simp, HBE.out⟩
            ·
              have dn0 : decide ((n0 : Int) < 0) = false := decide_eq_false (by omega)
              have HF1 := Lib.hid f1
              clear f1 h3 h4 HTK
              go_wp2_with fail
              have HX := Lib.hid (fun d os => (HR5.out.block ((below_regrown w5 d os).block _ HR5.out.lt)).range)
              have HY := Lib.hid (fun d os => (HR0.out.block ((below_regrown w5 d os).block _ HR0.out.lt)).range)
              have HsX := Lib.hid (size_27 (v) P G)
              have HsY := Lib.hid (size_27 v P G)
              clear HR5 HR0
              generalize rosL v P G = Y at *
              refine wp_region_quiet_below (by kernel_rfl) (by kernel_rfl) ?_
              iterate 16 (go_big_quiet_step (exact Calls.regrown_of (told_law _)))
              refine quiet_load_ros (by rfl) _ rfl w.heap.size rfl Y (by rintro w' ⟨p, rfl⟩; exact HY.out p.d p.os) HsY.out ?_
              try simp only [Act.put, List.setIfInBounds_toArray, List.set_cons_zero, List.set_cons_succ]
              repeat (go_big_quiet_step (exact Calls.regrown_of (HF1.out _)))
              refine wpQuiet_nil ?_
              intro _ hw'
              obtain ⟨⟨nq, osq⟩, hw3⟩ := hw'
              have HBE := Lib.hid (HB.out.trans ((below_regrown _ nq osq).mono HB.out.size))
              rw [← hw3] at HBE
              clear hw3
              go_wp2_with fail
              go_ret
              exact ⟨by simp, HBE.out⟩
          | true =>
            have HTK := Lib.hid htk
            obtain ⟨P1, hP1⟩ : ∃ P1, P1 = updI P q 0 := ⟨_, rfl⟩
            obtain ⟨G1, hG1⟩ : ∃ G1, G1 = updI G q (G q + 1) := ⟨_, rfl⟩
            have HKt := Lib.hid (fun w => take_yes v 0 q P G htk w)
            rw [← hP1, ← hG1] at HKt
            have HF := Lib.hid (free_facts htk)
            rw [← hP1, ← hG1] at HF
            clear htk hP1 hG1
            refine (HKt.out _).mono ?_
            rintro e wA ⟨rfl, hbA⟩
            replace HR0 := Lib.hid (HR0.out.block (hbA.block _ HR0.out.lt))
            replace HB := Lib.hid (HB.out.trans (hbA.mono HB.out.size))
            clear hbA
            try unfold rosV
            have hB := HB.out
            have HR0x := HR0.out
            have hz : RosAt (wA.alloc (Obj.cells #[.int .i64 0, .int .i64 0, .int .i64 0, .int .i64 0, .int .i64 0, .int .i64 0, .int .i64 0, .int .i64 0, .int .i64 0, .int .i64 0, .int .i64 0, .int .i64 0, .int .i64 0, .int .i64 0, .int .i64 0, .int .i64 0, .int .i64 0] 27)) wA.heap.size 0 (fun _ => 0) (fun _ => 0) := rosAt_new 0 (fun _ => 0) (fun _ => 0) 27 wA
            have HST := Lib.hid (run_store_ros hz.there (v + 1) (P1) (G1))
            have hW := below_setCells wA.heap.size (Nat.le_refl _) (rosL (v + 1) (P1) (G1)) 0 ((Below.refl _ wA).alloc (Nat.le_refl _) (Obj.cells #[.int .i64 0, .int .i64 0, .int .i64 0, .int .i64 0, .int .i64 0, .int .i64 0, .int .i64 0, .int .i64 0, .int .i64 0, .int .i64 0, .int .i64 0, .int .i64 0, .int .i64 0, .int .i64 0, .int .i64 0, .int .i64 0, .int .i64 0] 27))
            replace HR0 := Lib.hid (HR0x.block (hW.block _ HR0x.lt))
            clear HR0x
            have HR5 := Lib.hid (rosAt_stored hz.there (v + 1) (P1) (G1))
            replace HB := Lib.hid (hB.trans (hW.mono hB.size))
            clear hB hW hz
            go_wp2_with fail
            rw [HST.out]
            clear HST
            generalize ((wA.alloc (Obj.cells #[.int .i64 0, .int .i64 0, .int .i64 0, .int .i64 0, .int .i64 0, .int .i64 0, .int .i64 0, .int .i64 0, .int .i64 0, .int .i64 0, .int .i64 0, .int .i64 0, .int .i64 0, .int .i64 0, .int .i64 0, .int .i64 0, .int .i64 0] 27)).setCells wA.heap.size 0 (rosL (v + 1) (P1) (G1))) = w5 at *
            generalize wA.heap.size = t5 at *
            clear wA
            have cp := cell_regrown (HR0.out.p q h1)
            rw [h3] at cp
            have c0 := cell_regrown HR0.out.c0
            obtain ⟨hv, f1, f2, f3, f4⟩ := HF.out
            have HF1 := Lib.hid f1
            have HMa := Lib.hid (mask_v v P G)
            have HMb := Lib.hid (mask_v (v + 1) P1 G1)
            have HF2 := Lib.hid f2
            have dv := decide_eq_true hv
            have hwp := wrap_pow q h1
            have hor := bit_or (maskR v P G) q (by omega) (by omega)
            rw [show ((2 ^ q : Nat) : Int) = 2 ^ q from by push_cast; rfl] at hor
            clear f1 f2 h3 h4 HF HKt HTK
            go_wp2_with fail
            have HX := Lib.hid (fun d os => (HR5.out.block ((below_regrown w5 d os).block _ HR5.out.lt)).range)
            have HY := Lib.hid (fun d os => (HR0.out.block ((below_regrown w5 d os).block _ HR0.out.lt)).range)
            have HsX := Lib.hid (size_27 (v + 1) P1 G1)
            have HsY := Lib.hid (size_27 v P G)
            clear HR5 HR0
            generalize rosL (v + 1) P1 G1 = X at *
            generalize rosL v P G = Y at *
            refine wp_region_quiet_below (by kernel_rfl) (by kernel_rfl) ?_
            iterate 16 (go_big_quiet_step (exact Calls.regrown_of (told_law _)))
            refine quiet_load_ros (by rfl) _ rfl w.heap.size rfl Y (by rintro w' ⟨p, rfl⟩; exact HY.out p.d p.os) HsY.out ?_
            try simp only [Act.put, List.setIfInBounds_toArray, List.set_cons_zero, List.set_cons_succ]
            iterate 13 (go_big_quiet_step (exact Calls.regrown_of (HF1.out _)))
            refine quiet_load_ros (by rfl) _ rfl t5 rfl X (by rintro w' ⟨p, rfl⟩; exact HX.out p.d p.os) HsX.out ?_
            try simp only [Act.put, List.setIfInBounds_toArray, List.set_cons_zero, List.set_cons_succ]
            iterate 4 (go_big_quiet_step (exact Calls.regrown_of (HF2.out _)))
            refine quiet_load_ros (by rfl) _ rfl t5 rfl X (by rintro w' ⟨p, rfl⟩; exact HX.out p.d p.os) HsX.out ?_
            try simp only [Act.put, List.setIfInBounds_toArray, List.set_cons_zero, List.set_cons_succ]
            iterate 1 (go_big_quiet_step (exact Calls.regrown_of (HMb.out _)))
            refine quiet_load_ros (by rfl) _ rfl w.heap.size rfl Y (by rintro w' ⟨p, rfl⟩; exact HY.out p.d p.os) HsY.out ?_
            try simp only [Act.put, List.setIfInBounds_toArray, List.set_cons_zero, List.set_cons_succ]
            repeat (go_big_quiet_step (exact Calls.regrown_of (HMa.out _)))
            refine wpQuiet_nil ?_
            intro _ hw'
            obtain ⟨⟨nq, osq⟩, hw3⟩ := hw'
            have HBE := Lib.hid (HB.out.trans ((below_regrown _ nq osq).mono HB.out.size))
            rw [← hw3] at HBE
            clear hw3
            go_wp2_with fail
            go_ret
            exact ⟨by simp, HBE.out⟩
end Go.Proofs.Ythjabcogbjdkiaa
