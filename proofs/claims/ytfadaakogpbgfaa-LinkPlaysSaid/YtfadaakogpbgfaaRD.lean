/-
  Link: LinkPlays.
-/
import Derived.Test.YtfadaakogpbgfaaRC
import Derived.Deep.RegionHeld3
namespace Go.Proofs.Ytfadaakogpbgfaa
set_option linter.unusedVariables false
open Go.ChangeShapes Go.WideShapes Go.ChangeAt Go.RowKit Go.Sort

theorem u16_wrap_bd (x : Int) : 0 ≤ IntKind.u16.wrap x ∧ IntKind.u16.wrap x ≤ 65535 := by rw [wrap_u16]; omega
set_option maxHeartbeats 4000000 in
theorem law_LinkPlays (a0 : Int) (v1 : Value) (w : World) (w0 : (Lit.int .i64 a0).wf = true) (w1 : IsOps w v1) :
    Calls Try.prog 3 #[.int .i64 a0, v1] w fun e w' => e = .returned (.bool true) ∧ Below w.heap.size w w' := by
  obtain ⟨a1, len, cap, rfl, hl1, hl2, hel⟩ := w1
  unfold maxLen at hl2
  have Hel := Lib.hid hel
  clear hel w0
  go_enter Try.func3, Try.ntmps3
  go_wp2_with fail
  refine (lk_new a0 _).mono ?_
  rintro e w1 ⟨rfl, hA, hs1, hb1⟩
  generalize hB0 : w.heap.size = B at *
  have HB := Lib.hid hB0
  have HA := Lib.hid (And.intro hA (And.intro hs1 hb1))
  clear hB0 hA hs1 hb1
  go_wp2_with fail
  refine (rnew_link a0 _).mono ?_
  rintro e w2 ⟨rfl, hR, hs2, hb2⟩
  obtain ⟨hA, hs1, hb1⟩ := HA.out
  generalize hC0 : w1.heap.size = C at *
  have o0 : Pw w w2 B C 1 a0 0 0 false [] 0 (fun _ => false) := by
    have f := Frame.of_below (by rw [hC0]; exact hb2) (fun _ => False)
    refine ⟨⟨_, _, ⟨hA.frame f (fun _ _ h => h), hR, fun k h1 h2 => by omega, fun k h => by omega, hb1.trans (hb2.mono (by omega))⟩⟩, ⟨by decide, by decide, fun j _ => Nat.zero_testBit _, rfl, fun _ => rfl⟩, by decide, fun x h => by (cases h), by decide⟩
  have O0 := Lib.hid o0
  clear HA hA hs1 hb1 hR hs2 hb2 hC0 o0
  by_cases hlen : (200 : Int) < (len : Int)
  · go_wp2_with fail
    refine (told_law _).mono ?_
    rintro e w6 ⟨rfl, hA⟩
    obtain ⟨PA, PM, o9⟩ := O0.out.pv
    have O9 := Lib.hid (o9.below hA)
    clear o9 hA
    go_wp2_with fail
    go_ret
    exact ⟨rfl, by rw [HB.out]; exact O9.out.bel⟩
  go_wp2_with fail
  go_loopw [7] (fun i wr => ∃ n : Nat, n ≤ len ∧ i = .int .i64 n ∧ ∃ nx t l m is zs sr c, Pw w wr B C nx t l m is zs sr c) (fun i _ => len - (intOf i).toNat)
  case atStart => exact ⟨0, by omega, rfl, _, _, _, _, _, _, _, _, O0.out⟩
  case round =>
    obtain ⟨i, hi, rfl, nx, t, l, m, is, zs, sr, c, hP⟩ := hrel
    clear O0
    obtain ⟨⟨PA, PM, hPv⟩, hs0, hnx, hzb, hzl⟩ := hP
    have HP := Lib.hid hPv
    have HSM := Lib.hid hs0
    have HNX := Lib.hid hnx
    have HZB := Lib.hid hzb
    have HZL := Lib.hid hzl
    clear hPv hs0 hnx hzb hzl
    by_cases hlt : i < len
    · obtain ⟨lb, lo, rfl, hbl, hcell⟩ := Hel.out (by omega)
      obtain ⟨ok, now, s, a, k, k0, k1, k2, k3, k4, r0, r1, r2, r3, r4⟩ := hcell i hlt
      have kb : ∀ o, wr.cell? ⟨lb, o, none⟩ = w.cell? ⟨lb, o, none⟩ := fun o => (HP.out.bel.cell (p := ⟨lb, o, none⟩) (by exact hbl))
      rw [← kb] at k0 k1 k2 k3 k4
      clear hcell kb
      have hl1' := block_of_cell k0
      by_cases hk0 : ((wrap64 (ok.tmod 3 + 3)).tmod 3 == 0) = true
      · go_wp2_with fail
        have hA := (Below.refl wr.heap.size wr).alloc (Nat.le_refl _) (Obj.cells #[.int .i64 ok, .int .i64 now, .int .u16 s, .int .u16 a, .int .u32 k] 31)
        have HO := Lib.hid (opAt_new wr ok now s a k)
        have hP3 := HP.out.below hA
        have hMt : ¬ PA wr.heap.size := fun h => by have := HP.out.a.lt _ h; omega
        have hMr : ¬ PM wr.heap.size := fun h => by have := HP.out.r.lt _ h; omega
        clear hA
        generalize wr.alloc (Obj.cells #[.int .i64 ok, .int .i64 now, .int .u16 s, .int .u16 a, .int .u32 k] 31) = w3 at hP3 HO ⊢
        obtain ⟨t0, ht0⟩ : ∃ t0, wr.heap.size = t0 := ⟨_, rfl⟩
        rw [ht0] at HO hMt hMr
        try rw [ht0]
        clear ht0 k0 k1 k2 k3 k4 HP
        have HP3 := Lib.hid hP3
        clear hP3
        obtain ⟨o0, o1, o2, o3, o4⟩ := HO.out
        have ht0s := HO.out.lt
        have hnn : (nx != nx) = false := by simp
        have hll : (l != l) = false := by simp
        have hmm : ((m : Int) != (m : Int)) = false := by simp
        refine (pv_stampA HP3.out HZL.out).mono ?_
        rintro e w4 ⟨rfl, PA4, hP4⟩
        have HP4 := Lib.hid hP4
        clear hP4
        go_wp2_with fail
        refine (pv_stampR HP4.out HZL.out m HSM.out.2.1 HSM.out.2.2.1).mono ?_
        rintro e w5 ⟨rfl, PM5, hP5⟩
        rw [← HNX.out] at hP5
        have hPW : Pw w w5 B C (IntKind.u16.wrap (nx + 1)) t l m is (cut64 (zs ++ [nx])) nx c := ⟨⟨_, _, hP5⟩, HSM.out, rfl, fun x hx => by
          have hx' := List.mem_of_mem_drop hx
          rcases List.mem_append.1 hx' with h | h
          · exact HZB.out x h
          · rw [List.mem_singleton] at h; rw [h, HNX.out]; exact u16_wrap_bd _, cut_len _⟩
        have HPW := Lib.hid hPW
        clear hP5 hPW HP4 HP3 HO o0 o1 o2 o3 o4
        rw [← HNX.out]
        clear HSM HNX HZB HZL
        obtain ⟨⟨PA, PM, o9⟩, hs9, hnx9, hzb9, hzl9⟩ := HPW.out
        obtain ⟨v9, hL9, hO9⟩ := o9.r.ex
        have hC9 := o9.r.lt _ o9.r.own
        have c37 := hL9.c2
        have HO9 := Lib.hid o9
        have HV9 := Lib.hid hO9
        have HS9 := Lib.hid (And.intro hs9 (And.intro hnx9 (And.intro hzb9 hzl9)))
        clear HPW o9 hO9 hL9 hs9 hnx9 hzb9 hzl9
        go_wp2_with fail
        go_region_held3 (fun w' => w'.cell? ⟨C, 37, none⟩ = some v9) (go_keep) (first
          | (go_at_call 16; refine (same_true _ _ _ _ _ (Nat.le_trans HS9.out.2.2.2 (by decide)) _ HO10.out HV10.out).mono ?_; rintro e w11 ⟨rfl, hb11⟩; have c37'' : w11.cell? ⟨C, 37, none⟩ = some v9 := (World.cell?_of_block (hb11.block C (Nat.lt_of_lt_of_le hC9 HZ10.out))).trans c37'; have HO11 := Lib.hid (HP10.out.below hb11); clear hb11)
          | (go_at_call 17; refine (lk_open HO9.out.drew.a HS9.out.2.2.2).mono ?_; rintro e w10 ⟨v10, rfl, ho10, hb10⟩; have c37' : w10.cell? ⟨C, 37, none⟩ = some v9 := (World.cell?_of_block (hb10.block C hC9)).trans c37; have HO10 := Lib.hid ho10; have HZ10 := Lib.hid hb10.size; have HP10 := Lib.hid (HO9.out.drew.below hb10); have HV10 := Lib.hid ((HV9.out.frame ((Frame.refl (fun _ => False) _).drew) (fun _ _ h => h)).frame (Frame.of_below hb10 (fun _ => False)) (fun _ _ h => h)); clear ho10 hb10))
        have HEND : ∃ nx t l m is zs sr c, Pw w w11 B C nx t l m is zs sr c := ⟨_, _, _, _, _, _, _, _, ⟨⟨_, _, HO11.out⟩, HS9.out.1, (by first | exact HS9.out.2.1 | rfl), HS9.out.2.2.1, HS9.out.2.2.2⟩⟩
        have HEND := Lib.hid HEND
        clear HO11 HP10 HV10 HO10 HZ10 HV9 HO9 HS9 c37 c37' c37''
        set_option maxRecDepth 20000 in go_wp2_with fail
        all_goals first | exact ⟨⟨i + 1, by omega, by go_num, HEND.out⟩, by simp [intOf]; omega⟩ | exact ⟨i + 1, by omega, by go_num, HEND.out⟩ | (simp [intOf]; omega) | go_roundw
        all_goals first | exact ⟨i + 1, by omega, by go_num, HEND.out⟩ | (simp [intOf]; omega)
      · have hk0' : ((wrap64 (ok.tmod 3 + 3)).tmod 3 == 0) = false := by simpa using hk0
        clear hk0
        by_cases hk1 : ((wrap64 (ok.tmod 3 + 3)).tmod 3 == 1) = true
        · go_wp2_with fail
          have hA := (Below.refl wr.heap.size wr).alloc (Nat.le_refl _) (Obj.cells #[.int .i64 ok, .int .i64 now, .int .u16 s, .int .u16 a, .int .u32 k] 31)
          have HO := Lib.hid (opAt_new wr ok now s a k)
          have hP3 := HP.out.below hA
          have hMt : ¬ PA wr.heap.size := fun h => by have := HP.out.a.lt _ h; omega
          have hMr : ¬ PM wr.heap.size := fun h => by have := HP.out.r.lt _ h; omega
          clear hA
          generalize wr.alloc (Obj.cells #[.int .i64 ok, .int .i64 now, .int .u16 s, .int .u16 a, .int .u32 k] 31) = w3 at hP3 HO ⊢
          obtain ⟨t0, ht0⟩ : ∃ t0, wr.heap.size = t0 := ⟨_, rfl⟩
          rw [ht0] at HO hMt hMr
          try rw [ht0]
          clear ht0 k0 k1 k2 k3 k4 HP
          have HP3 := Lib.hid hP3
          clear hP3
          obtain ⟨o0, o1, o2, o3, o4⟩ := HO.out
          have ht0s := HO.out.lt
          have HM2 := Lib.hid HSM.out.2.1
          go_region_held3 (fun w' => w'.cell? ⟨t0, 1, none⟩ = some (.int .i64 now) ∧ w'.cell? ⟨t0, 2, none⟩ = some (.int .u16 s) ∧ w'.cell? ⟨t0, 3, none⟩ = some (.int .u16 a) ∧ w'.cell? ⟨t0, 4, none⟩ = some (.int .u32 k)) (go_keep) (first
            | (go_at_call 13; refine (pv_hearR HP4.out HZL4.out HZB4.out m HSM.out now s a k r2.1 r2.2 r3.1 r3.2).mono ?_; rintro e w5 ⟨rfl, ⟨PM5, hP5⟩, f5⟩; have HP5 := Lib.hid hP5; clear o0 o1 o2 o3 o4; obtain ⟨o0, o1, o2, o3, o4⟩ := HO4.out.block (f5.block t0 HO4.out.lt hMr); clear hP5 f5)
            | (go_at_call 12; refine (pv_hearA HP3.out.drew HZL.out HM2.out now s a k).mono ?_; rintro e w4 ⟨rfl, ⟨PA4, hP4⟩, f4⟩; have HP4 := Lib.hid hP4; have HO4 := Lib.hid (HO.out.block (f4.block t0 ht0s hMt)); have HZL4 := Lib.hid HZL.out; have HZB4 := Lib.hid HZB.out; clear o0 o1 o2 o3 o4; obtain ⟨o0, o1, o2, o3, o4⟩ := HO4.out; clear hP4 f4))
          have hst := same_step is l s m c HSM.out r2.1 r2.2
          have hPW : Pw w w5 B C nx (max t now) (noteL is l s) (noteM is l s m) true (zs.filter fun x => !toldF x a k) sr (refC is l s c) := ⟨⟨_, _, HP5.out⟩, hst.1, HNX.out, fun x hx => HZB.out x (List.mem_filter.1 hx).1, Nat.le_trans (List.length_filter_le _ _) HZL.out⟩
          have HPW := Lib.hid hPW
          have hnb : (noteB is l s m != noteB is l s m) = false := by simp
          clear hst hPW HP5 HP4 HO4 HZL4 HZB4 HM2 HP3 HO o0 o1 o2 o3 o4 HSM HNX HZB HZL
          obtain ⟨⟨PA, PM, o9⟩, hs9, hnx9, hzb9, hzl9⟩ := HPW.out
          obtain ⟨v9, hL9, hO9⟩ := o9.r.ex
          have hC9 := o9.r.lt _ o9.r.own
          have c37 := hL9.c2
          have HO9 := Lib.hid o9
          have HV9 := Lib.hid hO9
          have HS9 := Lib.hid (And.intro hs9 (And.intro hnx9 (And.intro hzb9 hzl9)))
          clear HPW o9 hO9 hL9 hs9 hnx9 hzb9 hzl9
          go_wp2_with fail
          go_region_held3 (fun w' => w'.cell? ⟨C, 37, none⟩ = some v9) (go_keep) (first
            | (go_at_call 16; refine (same_true _ _ _ _ _ (Nat.le_trans HS9.out.2.2.2 (by decide)) _ HO10.out HV10.out).mono ?_; rintro e w11 ⟨rfl, hb11⟩; have c37'' : w11.cell? ⟨C, 37, none⟩ = some v9 := (World.cell?_of_block (hb11.block C (Nat.lt_of_lt_of_le hC9 HZ10.out))).trans c37'; have HO11 := Lib.hid (HP10.out.below hb11); clear hb11)
            | (go_at_call 17; refine (lk_open HO9.out.drew.a HS9.out.2.2.2).mono ?_; rintro e w10 ⟨v10, rfl, ho10, hb10⟩; have c37' : w10.cell? ⟨C, 37, none⟩ = some v9 := (World.cell?_of_block (hb10.block C hC9)).trans c37; have HO10 := Lib.hid ho10; have HZ10 := Lib.hid hb10.size; have HP10 := Lib.hid (HO9.out.drew.below hb10); have HV10 := Lib.hid ((HV9.out.frame ((Frame.refl (fun _ => False) _).drew) (fun _ _ h => h)).frame (Frame.of_below hb10 (fun _ => False)) (fun _ _ h => h)); clear ho10 hb10))
          have HEND : ∃ nx t l m is zs sr c, Pw w w11 B C nx t l m is zs sr c := ⟨_, _, _, _, _, _, _, _, ⟨⟨_, _, HO11.out⟩, HS9.out.1, (by first | exact HS9.out.2.1 | rfl), HS9.out.2.2.1, HS9.out.2.2.2⟩⟩
          have HEND := Lib.hid HEND
          clear HO11 HP10 HV10 HO10 HZ10 HV9 HO9 HS9 c37 c37' c37''
          set_option maxRecDepth 20000 in go_wp2_with fail
          all_goals first | exact ⟨⟨i + 1, by omega, by go_num, HEND.out⟩, by simp [intOf]; omega⟩ | exact ⟨i + 1, by omega, by go_num, HEND.out⟩ | (simp [intOf]; omega) | go_roundw
          all_goals first | exact ⟨i + 1, by omega, by go_num, HEND.out⟩ | (simp [intOf]; omega)
        · have hk1' : ((wrap64 (ok.tmod 3 + 3)).tmod 3 == 1) = false := by simpa using hk1
          clear hk1
          go_wp2_with fail
          have hA := (Below.refl wr.heap.size wr).alloc (Nat.le_refl _) (Obj.cells #[.int .i64 ok, .int .i64 now, .int .u16 s, .int .u16 a, .int .u32 k] 31)
          have HO := Lib.hid (opAt_new wr ok now s a k)
          have hP3 := HP.out.below hA
          have hMt : ¬ PA wr.heap.size := fun h => by have := HP.out.a.lt _ h; omega
          have hMr : ¬ PM wr.heap.size := fun h => by have := HP.out.r.lt _ h; omega
          clear hA
          generalize wr.alloc (Obj.cells #[.int .i64 ok, .int .i64 now, .int .u16 s, .int .u16 a, .int .u32 k] 31) = w3 at hP3 HO ⊢
          obtain ⟨t0, ht0⟩ : ∃ t0, wr.heap.size = t0 := ⟨_, rfl⟩
          rw [ht0] at HO hMt hMr
          try rw [ht0]
          clear ht0 k0 k1 k2 k3 k4 HP
          have HP3 := Lib.hid hP3
          clear hP3
          obtain ⟨o0, o1, o2, o3, o4⟩ := HO.out
          have ht0s := HO.out.lt
          obtain ⟨vR, hLR, hOR⟩ := HP3.out.r.ex
          have cA := hLR.c1
          clear hLR hOR
          by_cases hd : wrap64 (now - t) < 0 ∧ t < now
          · have d1 : decide (wrap64 (now - t) < 0) = true := decide_eq_true hd.1
            have d2 : decide (t < now) = true := decide_eq_true hd.2
            clear hd
            go_region
            all_goals
              go_wp2_with fail
              refine (told_law _).mono ?_
              rintro e w6 ⟨rfl, hA⟩
              have O9 := Lib.hid (HP3.out.drew.below hA)
              clear hA
              go_wp2_with fail
              go_ret
              exact ⟨rfl, by rw [HB.out]; exact O9.out.bel⟩
          by_cases hd1 : wrap64 (now - t) < 0
          · have d1 : decide (wrap64 (now - t) < 0) = true := decide_eq_true hd1
            have d2 : decide (t < now) = false := decide_eq_false (fun h => hd ⟨hd1, h⟩)
            clear hd hd1
            go_region
            go_wp2_with fail
            clear cA
            have HP5 := Lib.hid HP3.out.drew
            have HO5 := Lib.hid (HO.out.block (w' := w3.drew) rfl)
            clear HP3 HO o0 o1 o2 o3 o4 ht0s
            generalize w3.drew = w5 at *
            have o1 := HO5.out.c1
            go_region_held3 (fun w' => w'.cell? ⟨t0, 1, none⟩ = some (.int .i64 now)) (go_keep) (first
              | (go_at_call 15; refine (pv_quietR HP5.out.drew now).mono ?_; rintro e w' ⟨rfl, rfl⟩)
              | (go_at_call 14; refine (pv_quietA HP5.out.drew now).mono ?_; rintro e w' ⟨rfl, rfl⟩))
            have hqq : (quietF t now != quietF t now) = false := by simp
            have hPW : Pw w w5.drew B C nx t l m is zs sr c := ⟨⟨_, _, HP5.out.drew⟩, HSM.out, HNX.out, HZB.out, HZL.out⟩
            have HPW := Lib.hid hPW
            clear hPW HP5 HO5 o1 HSM HNX HZB HZL
            generalize w5.drew = w6 at HPW ⊢
            obtain ⟨⟨PA, PM, o9⟩, hs9, hnx9, hzb9, hzl9⟩ := HPW.out
            obtain ⟨v9, hL9, hO9⟩ := o9.r.ex
            have hC9 := o9.r.lt _ o9.r.own
            have c37 := hL9.c2
            have HO9 := Lib.hid o9
            have HV9 := Lib.hid hO9
            have HS9 := Lib.hid (And.intro hs9 (And.intro hnx9 (And.intro hzb9 hzl9)))
            clear HPW o9 hO9 hL9 hs9 hnx9 hzb9 hzl9
            go_wp2_with fail
            go_region_held3 (fun w' => w'.cell? ⟨C, 37, none⟩ = some v9) (go_keep) (first
              | (go_at_call 16; refine (same_true _ _ _ _ _ (Nat.le_trans HS9.out.2.2.2 (by decide)) _ HO10.out HV10.out).mono ?_; rintro e w11 ⟨rfl, hb11⟩; have c37'' : w11.cell? ⟨C, 37, none⟩ = some v9 := (World.cell?_of_block (hb11.block C (Nat.lt_of_lt_of_le hC9 HZ10.out))).trans c37'; have HO11 := Lib.hid (HP10.out.below hb11); clear hb11)
              | (go_at_call 17; refine (lk_open HO9.out.drew.a HS9.out.2.2.2).mono ?_; rintro e w10 ⟨v10, rfl, ho10, hb10⟩; have c37' : w10.cell? ⟨C, 37, none⟩ = some v9 := (World.cell?_of_block (hb10.block C hC9)).trans c37; have HO10 := Lib.hid ho10; have HZ10 := Lib.hid hb10.size; have HP10 := Lib.hid (HO9.out.drew.below hb10); have HV10 := Lib.hid ((HV9.out.frame ((Frame.refl (fun _ => False) _).drew) (fun _ _ h => h)).frame (Frame.of_below hb10 (fun _ => False)) (fun _ _ h => h)); clear ho10 hb10))
            have HEND : ∃ nx t l m is zs sr c, Pw w w11 B C nx t l m is zs sr c := ⟨_, _, _, _, _, _, _, _, ⟨⟨_, _, HO11.out⟩, HS9.out.1, (by first | exact HS9.out.2.1 | rfl), HS9.out.2.2.1, HS9.out.2.2.2⟩⟩
            have HEND := Lib.hid HEND
            clear HO11 HP10 HV10 HO10 HZ10 HV9 HO9 HS9 c37 c37' c37''
            set_option maxRecDepth 20000 in go_wp2_with fail
            all_goals first | exact ⟨⟨i + 1, by omega, by go_num, HEND.out⟩, by simp [intOf]; omega⟩ | exact ⟨i + 1, by omega, by go_num, HEND.out⟩ | (simp [intOf]; omega) | go_roundw
            all_goals first | exact ⟨i + 1, by omega, by go_num, HEND.out⟩ | (simp [intOf]; omega)
          · have d1 : decide (wrap64 (now - t) < 0) = false := decide_eq_false hd1
            clear hd hd1
            go_region
            go_wp2_with fail
            clear cA
            have HP5 := Lib.hid HP3.out.drew
            have HO5 := Lib.hid (HO.out.block (w' := w3.drew) rfl)
            clear HP3 HO o0 o1 o2 o3 o4 ht0s
            generalize w3.drew = w5 at *
            have o1 := HO5.out.c1
            go_region_held3 (fun w' => w'.cell? ⟨t0, 1, none⟩ = some (.int .i64 now)) (go_keep) (first
              | (go_at_call 15; refine (pv_quietR HP5.out.drew now).mono ?_; rintro e w' ⟨rfl, rfl⟩)
              | (go_at_call 14; refine (pv_quietA HP5.out.drew now).mono ?_; rintro e w' ⟨rfl, rfl⟩))
            have hqq : (quietF t now != quietF t now) = false := by simp
            have hPW : Pw w w5.drew B C nx t l m is zs sr c := ⟨⟨_, _, HP5.out.drew⟩, HSM.out, HNX.out, HZB.out, HZL.out⟩
            have HPW := Lib.hid hPW
            clear hPW HP5 HO5 o1 HSM HNX HZB HZL
            generalize w5.drew = w6 at HPW ⊢
            obtain ⟨⟨PA, PM, o9⟩, hs9, hnx9, hzb9, hzl9⟩ := HPW.out
            obtain ⟨v9, hL9, hO9⟩ := o9.r.ex
            have hC9 := o9.r.lt _ o9.r.own
            have c37 := hL9.c2
            have HO9 := Lib.hid o9
            have HV9 := Lib.hid hO9
            have HS9 := Lib.hid (And.intro hs9 (And.intro hnx9 (And.intro hzb9 hzl9)))
            clear HPW o9 hO9 hL9 hs9 hnx9 hzb9 hzl9
            go_wp2_with fail
            go_region_held3 (fun w' => w'.cell? ⟨C, 37, none⟩ = some v9) (go_keep) (first
              | (go_at_call 16; refine (same_true _ _ _ _ _ (Nat.le_trans HS9.out.2.2.2 (by decide)) _ HO10.out HV10.out).mono ?_; rintro e w11 ⟨rfl, hb11⟩; have c37'' : w11.cell? ⟨C, 37, none⟩ = some v9 := (World.cell?_of_block (hb11.block C (Nat.lt_of_lt_of_le hC9 HZ10.out))).trans c37'; have HO11 := Lib.hid (HP10.out.below hb11); clear hb11)
              | (go_at_call 17; refine (lk_open HO9.out.drew.a HS9.out.2.2.2).mono ?_; rintro e w10 ⟨v10, rfl, ho10, hb10⟩; have c37' : w10.cell? ⟨C, 37, none⟩ = some v9 := (World.cell?_of_block (hb10.block C hC9)).trans c37; have HO10 := Lib.hid ho10; have HZ10 := Lib.hid hb10.size; have HP10 := Lib.hid (HO9.out.drew.below hb10); have HV10 := Lib.hid ((HV9.out.frame ((Frame.refl (fun _ => False) _).drew) (fun _ _ h => h)).frame (Frame.of_below hb10 (fun _ => False)) (fun _ _ h => h)); clear ho10 hb10))
            have HEND : ∃ nx t l m is zs sr c, Pw w w11 B C nx t l m is zs sr c := ⟨_, _, _, _, _, _, _, _, ⟨⟨_, _, HO11.out⟩, HS9.out.1, (by first | exact HS9.out.2.1 | rfl), HS9.out.2.2.1, HS9.out.2.2.2⟩⟩
            have HEND := Lib.hid HEND
            clear HO11 HP10 HV10 HO10 HZ10 HV9 HO9 HS9 c37 c37' c37''
            set_option maxRecDepth 20000 in go_wp2_with fail
            all_goals first | exact ⟨⟨i + 1, by omega, by go_num, HEND.out⟩, by simp [intOf]; omega⟩ | exact ⟨i + 1, by omega, by go_num, HEND.out⟩ | (simp [intOf]; omega) | go_roundw
            all_goals first | exact ⟨i + 1, by omega, by go_num, HEND.out⟩ | (simp [intOf]; omega)
    · go_wp2_with fail
      refine (told_law _).mono ?_
      rintro e w6 ⟨rfl, hA⟩
      have O9 := Lib.hid (HP.out.below hA)
      clear hA
      go_wp2_with fail
      go_ret
      exact ⟨rfl, by rw [HB.out]; exact O9.out.bel⟩
end Go.Proofs.Ytfadaakogpbgfaa
