/-
  Wire: WireFull's law.
-/
import Derived.Test.YtembppihfcclcaaNF
import Derived.Deep.DeepCutAuto
namespace Go.Proofs.Ytembppihfcclcaa
set_option linter.unusedVariables false
open Go.ChangeShapes Go.WideShapes Go.ChangeAt Go.RowKit

set_option linter.unusedSimpArgs false
set_option maxRecDepth 100000 in
set_option maxHeartbeats 8000000 in
theorem law_WireFull (a0 : Int) (w0 : (Lit.int .i64 a0).wf = true) (w : World) :
    Calls Try.prog 4 #[.int .i64 a0] w fun e w' => e = .returned (.bool true) ∧ Below w.heap.size w w' := by
  have hu0 : 0 ≤ IntKind.u64.wrap a0 := by simp [IntKind.wrap, IntKind.bits, IntKind.signed]; omega
  obtain ⟨k, hk, hK⟩ := cut_lt _ 9 hu0 (by omega) (by omega)
  rw [← Int.tmod_eq_emod_of_nonneg hu0] at hK
  have hK9 : wrap64 ((IntKind.u64.wrap a0).tmod 9) = (k : Int) := hK
  clear hu0 hK
  have HG : Hid (LG w w.heap.size (w.heap.size + 1) fF (.slice none 0 0) 0 (fD k) (w.alloc (Obj.cells #[.int .i64 5, .int .i64 0, .int .u16 0, .int .u16 0, .int .u32 0, .int .i64 0, .int .i64 0, .int .i64 0, .int .i64 0, .int .i64 0, .int .i64 0, .int .u32 0, .int .u64 0, .slice none 0 0, .slice none 0 0, .slice none 0 0] 30))) := Lib.hid (lg_new (w0 := w) (w := w) (F := fF) (Below.refl w.heap.size w) (Nat.le_refl _) (fD k))
  go_enter Try.func4, Try.ntmps4
  go_wp2_with fail
  rw [hK9]
  clear hK9
  generalize w.alloc (Obj.cells #[.int .i64 5, .int .i64 0, .int .u16 0, .int .u16 0, .int .u32 0, .int .i64 0, .int .i64 0, .int .i64 0, .int .i64 0, .int .i64 0, .int .i64 0, .int .u32 0, .int .u64 0, .slice none 0 0, .slice none 0 0, .slice none 0 0] 30) = w1 at *
  go_loopw [5] (fun c wr => ∃ i : Nat, ∃ lv : Value, i ≤ 16 ∧ c = .int .i64 i ∧ LG w w.heap.size (w.heap.size + 1) fF lv i (fD k) wr) (fun c _ => 16 - (intOf c).toNat)
  case atStart => exact ⟨0, _, by omega, rfl, HG.out⟩
  case round =>
    obtain ⟨i, lv, hi, rfl, hg⟩ := hrel
    clear HG
    have HG := Lib.hid hg
    clear hg
    generalize wr = wi at *
    by_cases hlt : i < 16
    · have hii : (i : Int) < 16 := by omega
      have HE0 := Lib.hid (eg_new (w0 := wi) (i : Int) (fun _ => 0) (xE k))
      go_wp2_with (first | (refine wpList_build_fr (i : Int) (by rfl) _ rfl rfl ?_) | (refine wpList_store_ent (op := ⟨none, Op.store 37 (.tmp 6) (.tmp 23), _, _, _, _⟩) rfl (.tmp 6) (.tmp 23) rfl (i : Int) (.slice none 0 0) (fun _ => 0) (entL_one (i : Int) none 0 0 (fun _ => 0)) wi wi.heap.size rfl rfl rfl ?_))
      generalize wi.alloc (Obj.cells (entL (i : Int) (.slice none 0 0) (fun _ => 0)).toArray 37) = wa at *
      have HE : Hid (EG wi i (.slice none 0 0) 0 (xE k) (bI 0) wa) := Lib.hid (HE0.out.congr (fun q _ => by unfold bI; rw [if_neg (by omega)]))
      clear HE0
      go_loopw [7] (fun c wr => ∃ s : Nat, ∃ sv : Value, s ≤ k ∧ c = .int .i64 s ∧ EG wi i sv s (xE k) (bI 0) wr) (fun c _ => k - (intOf c).toNat)
      case atStart => exact ⟨0, _, by omega, rfl, HE.out⟩
      case round =>
        obtain ⟨s, sv, hs, rfl, he⟩ := hrel
        clear HE
        have HE := Lib.hid he
        clear he
        by_cases hsk : s < k
        · have hski : (s : Int) < (k : Int) := by omega
          have c1 := HE.out.ent.z1
          have HX := Lib.hid (xE_leave k s hsk)
          go_wp2_with (at_builtin; refine wpList_app_ev rfl (.tmp 30) (.tmp 34) rfl (2 : Int) (s : Int) (1 : Int) (s : Int) HX HE (by omega) rfl rfl rfl ?_)
          intro g cap w' HE' hc' hf'
          clear HE c1 HX
          go_wp2_with fail
          exact ⟨⟨s + 1, _, by omega, by go_num, HE'.out⟩, by simp [intOf]; omega⟩
        have hsk' : s = k := by omega
        rw [hsk'] at HE
        clear hsk hs
        go_wp2_with fail
        go_loopw [8] (fun c wr => ∃ s : Nat, ∃ sv : Value, s ≤ k ∧ c = .int .i64 s ∧ EG wi i sv (k + s) (xE k) (bI 0) wr) (fun c _ => k - (intOf c).toNat)
        case atStart => exact ⟨0, _, by omega, rfl, HE.out⟩
        case round =>
          clear hsk'
          obtain ⟨s, sv, hs, rfl, he⟩ := hrel
          clear HE
          have HE := Lib.hid he
          clear he
          by_cases hsk : s < k
          · have hski : (s : Int) < (k : Int) := by omega
            have c1 := HE.out.ent.z1
            have HX := Lib.hid (xE_join k s)
            go_wp2_with (at_builtin; refine wpList_app_ev rfl (.tmp 43) (.tmp 47) rfl (1 : Int) (s : Int) (2 : Int) (s : Int) HX HE (by omega) rfl rfl rfl ?_)
            intro g cap w' HE' hc' hf'
            clear HE c1 HX
            go_wp2_with fail
            exact ⟨⟨s + 1, _, by omega, by go_num, HE'.out⟩, by simp [intOf]; omega⟩
          have hsk' : s = k := by omega
          rw [hsk'] at HE
          clear hsk hs
          go_wp2_with fail
          go_loopw [9] (fun c wr => ∃ s : Nat, s ≤ 8 ∧ c = .int .i64 s ∧ EG wi i sv (k + k) (xE k) (bI s) wr) (fun c _ => 8 - (intOf c).toNat)
          case atStart => exact ⟨0, by omega, rfl, HE.out⟩
          case round =>
            clear hsk'
            obtain ⟨s, hs, rfl, he⟩ := hrel
            clear HE
            have HE := Lib.hid he
            clear he
            by_cases hsk : s < 8
            · have hski : (s : Int) < 8 := by omega
              have cz := HE.out.ent.inps.z s hsk
              have fz : wr.frozen? ⟨wi.heap.size, 2 + s * 3 + 2, none⟩ = false := by have := (HE.out.th (2 + s * 3 + 2) (by omega)).2; rwa [Nat.zero_add] at this
              have hsi := HE.out.setIn (s * 3 + 2) (by omega) 1
              rw [if_pos (show (s * 3 + 2) % 3 = 2 by omega)] at hsi
              have HE' := Lib.hid (hsi.congr (fun q _ => bI_next s q))
              clear hsi HE
              go_wp2_with fail
              exact ⟨⟨s + 1, by omega, by go_num, HE'.out⟩, by simp [intOf]; omega⟩
            have hs8 : s = 8 := by omega
            rw [hs8] at HE
            clear hsk hs
            have HGx := Lib.hid (HG.out.grow HE.out.bel (Nat.le_refl _))
            have HSep : Hid (∀ g, sv.ownBlock = some g → lv.ownBlock ≠ some g) := Lib.hid (fun g h1 h2 => by
              obtain ⟨S, hrow, -⟩ := HG.out.ol.ex
              have h3 := (World.ownsRow.lt hrow g h2).2
              have h4 := (World.ownsRow.lt HE.out.own g h1).1
              omega)
            have HOw : Hid (OwnE wr (w.heap.size + 1) sv (k + k) (xE k)) := Lib.hid (OwnE.mono HE.out.own (by have h1 := HG.out.hB; omega))
            have c14 := HGx.out.msg.c14
            clear HG
            go_wp2_with (first | (refine wpList_load_g (op := ⟨some 60, _, _, _, _, _⟩) (by rfl) 37 _ rfl wi.heap.size 0 rfl _ _ HE.out.ent.range Try.underlying37 rfl (size_ent _ _ _) ?_) | (refine wpList_bs_ent (i : Int) sv (bI 8) (by rfl) _ rfl rfl ?_) | (at_builtin; refine wpList_app_en rfl (.tmp 59) (.tmp 61) rfl (w.heap.size + 1) lv i (fD k) HGx.out.ol (by omega) rfl HGx.out.hB sv HOw.out HSep.out rfl rfl ?_))
            intro lv' w' hO hgr hob hform
            obtain ⟨g, cap, rfl⟩ := hform.out
            obtain ⟨hG', hc', hf'⟩ := HGx.out.ent hO.out hgr.out
            have HG' := Lib.hid hG'
            clear hG' hO hgr hob c14 HGx HE HSep HOw
            go_wp2_with fail
            exact ⟨⟨i + 1, _, by omega, by go_num, HG'.out⟩, by simp [intOf]; omega⟩
    · have hi16 : i = 16 := by omega
      subst hi16
      clear hlt hi
      have hL := fM_len k hk
      have HM := Lib.hid (fM_b k hk)
      have hmay := fM_may k hk
      have HR : Hid (RowsV wi (.slice none 0 0) lv (.slice none 0 0) (fM k)) := Lib.hid HG.out.rows
      have HB := Lib.hid HG.out.bel
      have HA : Hid (MsgAt wi w.heap.size (fM k).F (.slice none 0 0) lv (.slice none 0 0)) := Lib.hid HG.out.msg
      clear HG
      go_wp2_with (refine wpList_load_g (op := ⟨some 71, _, _, _, _, _⟩) (by rfl) 30 _ rfl w.heap.size 0 rfl _ _ HA.out.range Try.underlying30 rfl (size_msg _ _ _ _) ?_)
      refine (putM_yes (fM k) _ lv _ wi HR.out HM.out hmay).mono ?_
      clear hmay HM HR HA
      rintro e wb ⟨⟨hl, rfl⟩ | ⟨hl, v, rfl, hO⟩, hb⟩
      · replace HB := Lib.hid (HB.out.trans (hb.mono HB.out.size))
        clear hb
        rw [hL] at hl
        have hl2 : (1200 : Int) < 19 + 16 * (8 + 10 * (k : Int) + 24) := by omega
        clear hL
        go_wp2_with fail
        refine (told_law _).mono ?_
        rintro e wt ⟨rfl, hb⟩
        replace HB := Lib.hid (HB.out.trans (hb.mono HB.out.size))
        clear hb
        go_wp2_with fail
        go_ret
        exact ⟨rfl, HB.out⟩
      · obtain ⟨g, cap, rfl, -⟩ := hO.form (by rw [hL]; omega)
        replace HB := Lib.hid (HB.out.trans (hb.mono HB.out.size))
        clear hb hO
        rw [hL] at hl ⊢
        have hl2 : ¬ (1200 : Int) < 19 + 16 * (8 + 10 * (k : Int) + 24) := by omega
        have hq : (((19 + 16 * (32 + 10 * k) : Nat) : Int) == 19 + 16 * (8 + 10 * (k : Int) + 24)) = true := by rw [beq_iff_eq]; omega
        generalize hN : 19 + 16 * (32 + 10 * k) = N at *
        clear hL hN
        go_wp2_with fail
        refine (told_law _).mono ?_
        rintro e wt ⟨rfl, hb⟩
        replace HB := Lib.hid (HB.out.trans (hb.mono HB.out.size))
        clear hb
        go_wp2_with fail
        go_ret
        exact ⟨rfl, HB.out⟩
end Go.Proofs.Ytembppihfcclcaa
