/-
  Entry: EntryFront: a row is a beginning of itself, and of itself with more behind.
-/
import Derived.Test.YtmhgkkfeohaojaaT1
namespace Go.Proofs.Ytmhgkkfeohaojaa
set_option linter.unusedVariables false
open Go.ChangeShapes Go.WideShapes Go.ChangeAt Go.RowKit

set_option linter.unusedSimpArgs false
section
variable {ops : Array Oper} {C : World → Prop}
theorem quiet_load_ent {Q : Act → Prop} {a : Act} {o : Oper} {rest : List Oper} (hw : Region.wanted o (yielded ops a.tmps) = true) (x : Operand) (ho : o.op = .load 28 x) (b of : Nat) (hx : a.eval x = .pointer (some ⟨b, of, none⟩)) (cs : List Value)
    (hc : ∀ w, C w → w.rangeAt b of cs) (hi : (Try.prog.info? 28).map (·.size) = some cs.length) (h : wpQuiet Try.prog ops C Q rest (a.put o.dst (.agg cs.toArray))) : wpQuiet Try.prog ops C Q (o :: rest) a :=
  wpQuiet_step fun K hK => by
    rw [if_pos hw]
    refine ⟨.agg cs.toArray, fun w hC => ?_, hK _ h⟩
    unfold Oper.quietAt execOp
    simp only [ho, hx, Instr.loadAt, Instr.sureAddr, Sem.run_bind, Sem.run_pure, Result.andThen_ok, run_loadVar_mid (P := Try.prog) w b of 28 cs _ (hc w hC) Try.underlying28 rfl hi]
    exact ⟨rfl, rfl⟩
end
theorem EntsV.take {w : World} {a : Option Addr} {n cap k : Nat} {D : Nat → Ent} (h : EntsV w (.slice a n cap) n D) (hk : k ≤ n) : EntsV w (.slice a k cap) k D := by
  obtain ⟨a', cap', e, h1, h2, h3⟩ := h
  injection e with e1 e2 e3
  subst e1 e3
  refine ⟨_, _, rfl, by omega, h2, fun h0 => ?_⟩
  obtain ⟨b, o, e, hb, hc⟩ := h3 (by omega)
  exact ⟨b, o, e, hb, fun i hi => hc i (by omega)⟩
theorem front_self (n : Nat) (D : Nat → Ent) : frontB n D n D = true := by unfold frontB; rw [decide_eq_true (Nat.le_refl n), entsEq_of D D n (fun _ _ => rfl)]; rfl
theorem front_less (k n : Nat) (D : Nat → Ent) (h : k ≤ n) : frontB k D n D = true := by unfold frontB; rw [decide_eq_true h, entsEq_of D D k (fun _ _ => rfl)]; rfl
theorem front_more (k n : Nat) (D : Nat → Ent) (h : k ≤ n) : frontB n D k D = decide (k = n) := by
  unfold frontB
  rw [entsEq_of D D n (fun _ _ => rfl), Bool.and_true, decide_eq_decide]
  omega
theorem front_one (k n : Nat) (D : Nat → Ent) (y : Ent) (h : k ≤ n) : frontB (k + 1) (fun i => if i < k then D i else y) n D = (decide (k < n) && sameD (D k) y) := by
  unfold frontB
  unfold entsEq
  rw [entsEq_of _ D k (fun i hi => by simp [hi]), Bool.true_and]
  simp only [Nat.lt_irrefl, if_false]
  rw [sameB_symm]
  rfl
theorem EntsV.pick {w : World} {a : Option Addr} {n cap : Nat} {D : Nat → Ent} (h : EntsV w (.slice a n cap) n D) : ∃ SV : Nat → Value, (∀ i, i < n → EvsV w (SV i) (D i).n (D i).E) ∧ (0 < n → ∃ b o, a = some ⟨b, o, none⟩ ∧ b < w.heap.size ∧ ∀ i, i < n → EntAt w b (o + i * 26) (D i).fr (SV i) (D i).I) := by
  obtain ⟨a', cap', e, h1, h2, h3⟩ := h
  injection e with e1 e2 e3
  subst e1 e3
  by_cases h0 : 0 < n
  · obtain ⟨b, o, e, hb, hc⟩ := h3 h0
    obtain ⟨SV, hSV⟩ := choose_lt' (fun i hi => hc i hi)
    exact ⟨SV, fun i hi => (hSV i hi).2, fun _ => ⟨b, o, e, hb, fun i hi => (hSV i hi).1⟩⟩
  · exact ⟨fun _ => .slice none 0 0, fun i hi => absurd hi (by omega), fun h => absurd h h0⟩
theorem cut_of (u : Int) (n : Nat) (h0 : 0 ≤ u) (hn : n ≤ 10) : ∃ k : Nat, k ≤ n ∧ wrap64 (u % ((n : Int) + 1)) = (k : Int) := by
  have h1 := Int.emod_nonneg u (show ((n : Int) + 1) ≠ 0 by omega)
  have h2 := Int.emod_lt_of_pos u (show 0 < ((n : Int) + 1) by omega)
  generalize u % ((n : Int) + 1) = q at *
  refine ⟨q.toNat, by omega, ?_⟩
  unfold wrap64
  omega
set_option maxHeartbeats 4000000 in
theorem law_EntryFront (v0 : Value) (a1 : Int) (v2 : Value) (w : World) (w0 : IsEnts w v0) (w1 : (Lit.int .i64 a1).wf = true) (w2 : IsEnt w v2) :
    Calls Try.prog 6 #[v0, .int .i64 a1, v2] w fun e w' => e = .returned (.bool true) ∧ Below w.heap.size w w' := by
  obtain ⟨n, D, hD, -, hnc⟩ := w0
  obtain ⟨fr, sve, en, E, I, rfl, hev, -⟩ := w2
  have hDD := hD
  obtain ⟨a, cap, rfl, hncap, hcm, hin⟩ := hD
  have hcm' := hcm
  unfold maxLen at hcm'
  have HN := Lib.hid (hnc n cap)
  clear hnc
  have HE := Lib.hid (entAt_new fr sve I 28 w)
  have HB := Lib.hid ((Below.refl w.heap.size w).alloc (Nat.le_refl _) (Obj.cells (entL fr sve I).toArray 28))
  have HBs : Hid ((w.alloc (Obj.cells (entL fr sve I).toArray 28)).heap.size = w.heap.size + 1) := Lib.hid (by simp)
  have HV := Lib.hid (hev.below HB.out (Nat.le_refl _))
  have HD := Lib.hid (hDD.below HB.out (Nat.le_refl _))
  have HV0 := Lib.hid hev
  have HD0 := Lib.hid hDD
  have HIN := Lib.hid hin
  clear hev hDD hin
  go_enter Try.func6, Try.ntmps6
  by_cases h10 : 10 < n
  · have h10i : (10 : Int) < (n : Int) := by omega
    go_wp2_with fail
    refine (told_law _).mono ?_
    rintro e w3 ⟨rfl, hb3⟩
    replace HB := Lib.hid (HB.out.trans (hb3.mono HB.out.size))
    go_wp2_with fail
    go_ret
    exact ⟨rfl, HB.out⟩
  have h10i : ¬ (10 : Int) < (n : Int) := by omega
  go_wp2_with (refine wpList_load_g (by rfl) 28 _ rfl w.heap.size 0 rfl _ _ HE.out.range Try.underlying28 rfl (size_ent _ _ _) ?_)
  clear h10i
  refine (few_any fr sve en E I _ HV.out).mono ?_
  rintro e w2 ⟨rfl, hb2⟩
  have hlt := HE.out.lt
  replace HE := Lib.hid (HE.out.block (hb2.block _ HE.out.lt))
  have HS : Hid (w.heap.size + 1 ≤ w2.heap.size) := Lib.hid (by have := hb2.size; have := HBs.out; omega)
  replace HB := Lib.hid (HB.out.trans (hb2.mono (by have := HB.out.size; omega)))
  replace HV := Lib.hid (HV.out.below hb2 (Nat.le_refl _))
  replace HD := Lib.hid (HD.out.below hb2 (Nat.le_refl _))
  clear hb2 HBs hlt
  rcases hf : decide (en ≤ 20) with _ | _
  · clear hf
    go_wp2_with fail
    refine (told_law _).mono ?_
    rintro e w3 ⟨rfl, hb3⟩
    replace HB := Lib.hid (HB.out.trans (hb3.mono HB.out.size))
    go_wp2_with fail
    go_ret
    exact ⟨rfl, HB.out⟩
  clear hf
  go_wp2_with fail
  go_loopw [7] (fun i wr => ∃ k : Nat, k ≤ n ∧ i = .int .i64 k ∧ EntAt wr w.heap.size 0 fr sve I ∧ w.heap.size + 1 ≤ wr.heap.size ∧ Below w.heap.size w wr) (fun i _ => n - (intOf i).toNat)
  case atStart => exact ⟨0, by omega, rfl, HE.out, HS.out, HB.out⟩
  case round =>
    obtain ⟨k, hk, rfl, hE, hS, hB⟩ := hrel
    clear HE HS HB HV HD
    have HE := Lib.hid hE
    have HB := Lib.hid hB
    have HS := Lib.hid hS
    clear hE hS
    by_cases hlt : k < n
    · obtain ⟨b, o, rfl, hbl, hc⟩ := HIN.out (by omega)
      obtain ⟨sv, hes, hvs⟩ := (hc.below hB (Nat.le_refl _)) k hlt
      have hki : (k : Int) < (n : Int) := by omega
      have HC := Lib.hid hes
      have HCV := Lib.hid hvs
      clear hes hvs hc hB
      go_wp2_with (refine wpList_load_g (by rfl) 28 _ rfl b (o + k * 26) rfl _ _ HC.out.range Try.underlying28 rfl (size_ent _ _ _) ?_)
      refine (few_any _ _ _ _ _ _ HCV.out).mono ?_
      rintro e w3 ⟨rfl, hb3⟩
      replace HE := Lib.hid (HE.out.block (hb3.block _ HE.out.lt))
      replace HB := Lib.hid (HB.out.trans (hb3.mono HB.out.size))
      replace HS : Hid (w.heap.size + 1 ≤ w3.heap.size) := Lib.hid (by have := hb3.size; have := HS.out; omega)
      clear hb3 HC HCV
      rcases hf : decide ((D k).n ≤ 20) with _ | _
      · clear hf
        go_wp2_with fail
        refine (told_law _).mono ?_
        rintro e w4 ⟨rfl, hb4⟩
        replace HB := Lib.hid (HB.out.trans (hb4.mono HB.out.size))
        go_wp2_with fail
        go_ret
        exact ⟨rfl, HB.out⟩
      · clear hf
        go_wp2_with fail
        all_goals first | exact ⟨⟨k + 1, by omega, by go_num, HE.out, HS.out, HB.out⟩, by simp [intOf]; omega⟩ | exact ⟨k + 1, by omega, by go_num, HE.out, HS.out, HB.out⟩ | (simp [intOf]; omega) | go_roundw
    · obtain rfl : n = k := by omega
      clear hB hk hlt
      have hu0 : 0 ≤ IntKind.u64.wrap a1 := by simp [IntKind.wrap, IntKind.bits, IntKind.signed]; omega
      obtain ⟨K, hKn, hK⟩ := cut_of _ n hu0 (by omega)
      obtain ⟨SV, hSV, hcell⟩ := HD0.out.pick
      have HK := Lib.hid hK
      have HSV := Lib.hid hSV
      have HC := Lib.hid hcell
      clear hK hSV hcell
      go_wp2_with fail
      rw [HK.out]
      clear HK
      have hKi : (K : Int) ≤ (n : Int) := by omega
      have hKc : (K : Int) ≤ (cap : Int) := by omega
      obtain ⟨ea, ecap, hse, -⟩ := id HV0.out
      refine ef_region w.heap.size w _ _ rfl (Nat.le_refl _) a n cap K hKi hKc (by omega) (by omega) (fun e => by subst e; have := HN.out rfl; omega) fr sve I (fun i => if i < K then D i else ⟨fr, en, E, I⟩) (fun i => if i < K then SV i else sve) (fun i => ?_) (by simp) (by simp) (fun h => ?_) (fun i hi => ?_) (Lib.hid (HE.out.block rfl)) ⟨rfl, HS.out, HB.out.drew⟩ _ _ _ _ _ _ _ _ _ _ _ _ _ _ _ _ _ _ _ _ _ _ _ _ _ _ _ _ _ _ _ _ _ _ _ _ _ _ _ _ _ _ _ _ _ _ _ _ _ _ _ _ _ _ _ _ _ _ _ _ _ _ _ _ _ _ _ _ _ _ _ _ _ _ _ _ _ _ _ _ _ _ _ _ _ _ _ _ _ _ _ (fun _ _ _ _ _ h => h) ?_
      · by_cases h : i < K
        · obtain ⟨a, c, e, -⟩ := HSV.out i (by omega)
          exact ⟨_, _, _, by simp only [if_pos h]; exact e⟩
        · exact ⟨_, _, _, by simp only [if_neg h]; exact hse⟩
      · obtain ⟨b, o, e, hb, hc⟩ := HC.out (by omega)
        exact ⟨b, o, e, hb, fun i hi => by simp only [if_pos hi]; exact hc i (by omega)⟩
      · by_cases h : i < K
        · simp only [if_pos h]; exact HSV.out i (by omega)
        · simp only [if_neg h]; exact HV0.out
      intro x41 x42 x43 x44 x45 x46 x47 x48 v9 w9 h9 hF
      have H9 := Lib.hid h9
      have HEn := Lib.hid (HE.out.block hF.k)
      have HBn := Lib.hid hF.bel
      have HDn := Lib.hid (HD0.out.below hF.bel (Nat.le_refl _))
      have HVn := Lib.hid (HV0.out.below hF.bel (Nat.le_refl _))
      clear HE HB HS HN HV0 HD0 HIN h9 hF hse
      dsimp only
      have hcm3 : (cap : Int) ≤ 2 ^ 63 - 1 := by omega
      have HSM : Hid (frontB (K + 1) (fun i => if i < K then D i else ⟨fr, en, E, I⟩) n D = (decide (K < n) && sameD (D K) ⟨fr, en, E, I⟩)) := Lib.hid (front_one K n D ⟨fr, en, E, I⟩ hKn)
      clear hu0 hncap hcm hcm' h10 w1
      by_cases hlt : K < n
      · obtain ⟨b, o, rfl, hb, hc⟩ := HC.out (by omega)
        have hKi' : (K : Int) < (n : Int) := by omega
        have HCA := Lib.hid (fun d os => ((hc K hlt).block (HBn.out.block b hb)).block ((below_regrown w9 d os).block b (by have := HBn.out.size; omega)))
        have HCV := Lib.hid (fun d os => ((HSV.out K hlt).below HBn.out (Nat.le_refl _)).below (below_regrown w9 d os) (Nat.le_refl _))
        have HEA := Lib.hid (fun d os => HEn.out.block ((below_regrown w9 d os).block _ HEn.out.lt))
        have HEV := Lib.hid (fun d os => HVn.out.below (below_regrown w9 d os) (Nat.le_refl _))
        clear hc HC HSV
        go_wp2_with fail
        refine wp_region_quiet_below (by kernel_rfl) (by kernel_rfl) ?_
        repeat (first | (refine quiet_load_ent (by rfl) _ rfl b (o + K * 26) rfl _ (by rintro w' ⟨p, rfl⟩; exact (HCA.out p.d p.os).range) (size_ent _ _ _) ?_; try simp only [Act.put, List.setIfInBounds_toArray, List.set_cons_zero, List.set_cons_succ]) | (refine quiet_load_ent (by rfl) _ rfl w.heap.size 0 rfl _ (by rintro w' ⟨p, rfl⟩; exact (HEA.out p.d p.os).range) (size_ent _ _ _) ?_; try simp only [Act.put, List.setIfInBounds_toArray, List.set_cons_zero, List.set_cons_succ]) | (go_big_quiet_step (exact Calls.regrown_of (sameRef_any _ _ _ _ _ _ _ _ _ _ _ (HCV.out _ _) (HEV.out _ _)))))
        refine wpQuiet_nil ?_
        intro w10 hw'
        obtain ⟨⟨nq, osq⟩, hw3⟩ := hw'
        have bq := below_regrown w9 nq osq
        rw [← hw3] at bq
        have HB := Lib.hid (HBn.out.trans (bq.mono HBn.out.size))
        have HD := Lib.hid (HDn.out.below bq (Nat.le_refl _))
        have HM := Lib.hid (H9.out.below bq (Nat.le_refl _))
        clear hw3 bq HBn HDn H9 HEn HVn HCA HCV HEA HEV
        have hne : ((K : Int) == (n : Int)) = false := by rw [beq_eq_false_iff_ne]; omega
        have HFM : Hid (frontB n D K D = false) := Lib.hid (by rw [front_more K n D hKn]; exact decide_eq_false (by omega))
        rw [decide_eq_true hlt, Bool.true_and] at HSM
        unfold sameD at HSM
        dsimp only at HSM
        generalize sameB (D K).fr (D K).n (D K).E (D K).I fr en E I = sb at *
        have hsb : (sb == sb) = true := by simp
        go_wp2_with fail
        refine (told_law _).mono ?_
        rintro e w11 ⟨rfl, hb11⟩
        replace HB := Lib.hid (HB.out.trans (hb11.mono HB.out.size))
        replace HD := Lib.hid (HD.out.below hb11 (Nat.le_refl _))
        replace HM := Lib.hid (HM.out.below hb11 (Nat.le_refl _))
        clear hb11
        go_wp2_with fail
        refine (front_any n n D D _ _ _ HD.out HD.out).mono ?_
        rintro e w12 ⟨rfl, hb12⟩
        rw [front_self]
        replace HB := Lib.hid (HB.out.trans (hb12.mono HB.out.size))
        replace HD := Lib.hid (HD.out.below hb12 (Nat.le_refl _))
        replace HM := Lib.hid (HM.out.below hb12 (Nat.le_refl _))
        clear hb12
        go_wp2_with fail
        refine (front_any K n D D _ _ _ (HD.out.take hKn) HD.out).mono ?_
        rintro e w13 ⟨rfl, hb13⟩
        rw [front_less K n D hKn]
        replace HB := Lib.hid (HB.out.trans (hb13.mono HB.out.size))
        replace HD := Lib.hid (HD.out.below hb13 (Nat.le_refl _))
        replace HM := Lib.hid (HM.out.below hb13 (Nat.le_refl _))
        clear hb13
        go_wp2_with fail
        refine (front_any n K D D _ _ _ HD.out (HD.out.take hKn)).mono ?_
        rintro e w14 ⟨rfl, hb14⟩
        rw [HFM.out]
        replace HB := Lib.hid (HB.out.trans (hb14.mono HB.out.size))
        replace HD := Lib.hid (HD.out.below hb14 (Nat.le_refl _))
        replace HM := Lib.hid (HM.out.below hb14 (Nat.le_refl _))
        clear hb14
        go_wp2_with fail
        refine (front_any (K + 1) n _ D _ _ _ HM.out HD.out).mono ?_
        rintro e w15 ⟨rfl, hb15⟩
        rw [HSM.out]
        replace HB := Lib.hid (HB.out.trans (hb15.mono HB.out.size))
        clear hb15
        go_wp2_with fail
        go_ret
        exact ⟨rfl, HB.out⟩
      · obtain rfl : n = K := by omega
        go_wp2_with fail
        refine wp_region_quiet_below (by kernel_rfl) (by kernel_rfl) ?_
        repeat (go_big_quiet_step (fail))
        refine wpQuiet_nil ?_
        intro w10 hw'
        obtain ⟨⟨nq, osq⟩, hw3⟩ := hw'
        have bq := below_regrown w9 nq osq
        rw [← hw3] at bq
        have HB := Lib.hid (HBn.out.trans (bq.mono HBn.out.size))
        have HD := Lib.hid (HDn.out.below bq (Nat.le_refl _))
        have HM := Lib.hid (H9.out.below bq (Nat.le_refl _))
        clear hw3 bq HBn HDn H9 HEn HVn HSV HC
        have HFM : Hid (frontB n D n D = true) := Lib.hid (front_self n D)
        rw [decide_eq_false hlt, Bool.false_and] at HSM
        go_wp2_with fail
        refine (told_law _).mono ?_
        rintro e w11 ⟨rfl, hb11⟩
        replace HB := Lib.hid (HB.out.trans (hb11.mono HB.out.size))
        replace HD := Lib.hid (HD.out.below hb11 (Nat.le_refl _))
        replace HM := Lib.hid (HM.out.below hb11 (Nat.le_refl _))
        clear hb11
        go_wp2_with fail
        refine (front_any n n D D _ _ _ HD.out HD.out).mono ?_
        rintro e w12 ⟨rfl, hb12⟩
        rw [front_self]
        replace HB := Lib.hid (HB.out.trans (hb12.mono HB.out.size))
        replace HD := Lib.hid (HD.out.below hb12 (Nat.le_refl _))
        replace HM := Lib.hid (HM.out.below hb12 (Nat.le_refl _))
        clear hb12
        go_wp2_with fail
        refine (front_any n n D D _ _ _ (HD.out.take hKn) HD.out).mono ?_
        rintro e w13 ⟨rfl, hb13⟩
        rw [front_less n n D hKn]
        replace HB := Lib.hid (HB.out.trans (hb13.mono HB.out.size))
        replace HD := Lib.hid (HD.out.below hb13 (Nat.le_refl _))
        replace HM := Lib.hid (HM.out.below hb13 (Nat.le_refl _))
        clear hb13
        go_wp2_with fail
        refine (front_any n n D D _ _ _ HD.out (HD.out.take hKn)).mono ?_
        rintro e w14 ⟨rfl, hb14⟩
        rw [HFM.out]
        replace HB := Lib.hid (HB.out.trans (hb14.mono HB.out.size))
        replace HD := Lib.hid (HD.out.below hb14 (Nat.le_refl _))
        replace HM := Lib.hid (HM.out.below hb14 (Nat.le_refl _))
        clear hb14
        go_wp2_with fail
        refine (front_any (n + 1) n _ D _ _ _ HM.out HD.out).mono ?_
        rintro e w15 ⟨rfl, hb15⟩
        rw [HSM.out]
        replace HB := Lib.hid (HB.out.trans (hb15.mono HB.out.size))
        clear hb15
        go_wp2_with fail
        go_ret
        exact ⟨rfl, HB.out⟩
end Go.Proofs.Ytmhgkkfeohaojaa
