/-
  Queue: the Go text of QueuePlays returns true for every input.
-/
import Derived.Test.YtabgooglfgioiaaT
namespace Go.Proofs.Ytabgooglfgioiaa
set_option linter.unusedVariables false
open Go.ChangeShapes Go.WideShapes Go.ChangeAt Go.RowKit

/-- What a round of QueuePlays keeps. -/
def PW (s b M c : Nat) (w : World) (i : Nat) (wr : World) : Prop :=
  ∃ g n f x y z hs X Y Z, QAt wr b M n f x y z g ∧ RAt wr c f x y z hs X Y Z ∧ Alike g f hs X Y Z ∧ n ≤ i ∧ 0 ≤ f ∧ f ≤ 1000 + i ∧ Below s w wr
/-- A step in memory. -/
structure OpAt (w : World) (t : Nat) (k f x y z : Int) : Prop where
  c0 : w.cell? ⟨t, 0, none⟩ = some (.int .i64 k)
  c1 : w.cell? ⟨t, 1, none⟩ = some (.int .i64 f)
  c2 : w.cell? ⟨t, 2, none⟩ = some (.int .i8 x)
  c3 : w.cell? ⟨t, 3, none⟩ = some (.int .i8 y)
  c4 : w.cell? ⟨t, 4, none⟩ = some (.int .u8 z)
  fz : w.frozen? ⟨t, 1, none⟩ = false
theorem OpAt.block {w w' : World} {t : Nat} {k f x y z : Int} (h : OpAt w t k f x y z) (e : w'.heap[t]? = w.heap[t]?) : OpAt w' t k f x y z :=
  ⟨(World.cell?_of_block e).trans h.c0, (World.cell?_of_block e).trans h.c1, (World.cell?_of_block e).trans h.c2, (World.cell?_of_block e).trans h.c3, (World.cell?_of_block e).trans h.c4, (World.frozen?_of_block e).trans h.fz⟩
theorem OpAt.lt {w : World} {t : Nat} {k f x y z : Int} (h : OpAt w t k f x y z) : t < w.heap.size := cell_lt h.c0
theorem opAt_new (w : World) (k f x y z : Int) : OpAt (w.alloc (Obj.cells #[.int .i64 k, .int .i64 f, .int .i8 x, .int .i8 y, .int .u8 z] 31)) w.heap.size k f x y z :=
  ⟨by go_simp, by go_simp, by go_simp, by go_simp, by go_simp, by go_simp⟩
theorem OpAt.setF {w : World} {t : Nat} {k f x y z : Int} (h : OpAt w t k f x y z) (f' : Int) : OpAt (w.setCell ⟨t, 1, none⟩ (.int .i64 f')) t k f' x y z := by
  obtain ⟨c0, c1, c2, c3, c4, fz⟩ := h
  refine ⟨?_, ?_, ?_, ?_, ?_, ?_⟩ <;> go_simp
theorem PW.grown {s b M c : Nat} {w W : World} {i : Nat} (h : PW s b M c w i W) (hs : s ≤ W.heap.size) (hb : b < W.heap.size) (d : Nat) (os : Array Obj) : PW s b M c w i (Sort.grow (redrawn W d) os) := by
  obtain ⟨g, n, f, p, q, r, hs', X, Y, Z, hq, hr, hal, hn, hf0, hf1', hB⟩ := h
  have hB2 := below_regrown W d os
  exact ⟨g, n, f, p, q, r, hs', X, Y, Z, hq.below hB2, hr.block (hB2.block c hr.lt), hal, hn, hf0, hf1', hB.trans (hB2.mono hs)⟩
/-- What the look at the end of a round calls. -/
theorem PW.looks {s b M c : Nat} {w W : World} {i : Nat} (h : PW s b M c w i W) (hi : i ≤ 300) : ∃ f N : Int, (∀ d os, (Sort.grow (redrawn W d) os).cell? ⟨c, 0, none⟩ = some (.int .i64 f)) ∧
    (∀ d os, Calls Try.prog 12 #[.pointer (some ⟨b, 0, none⟩)] (Sort.grow (redrawn W d) os) fun e w'' => e = .returned (.int .i64 f) ∧ ∃ p : Regrown, w'' = Sort.grow (redrawn W p.d) p.os) ∧
    (∀ d os, Calls Try.prog 11 #[.pointer (some ⟨b, 0, none⟩)] (Sort.grow (redrawn W d) os) fun e w'' => e = .returned (.int .i64 N) ∧ ∃ p : Regrown, w'' = Sort.grow (redrawn W p.d) p.os) ∧
    (∀ d os, Calls Try.prog 18 #[.pointer (some ⟨c, 0, none⟩)] (Sort.grow (redrawn W d) os) fun e w'' => e = .returned (.int .i64 N) ∧ ∃ p : Regrown, w'' = Sort.grow (redrawn W p.d) p.os) := by
  obtain ⟨g, n, f, p, q, r, hs', X, Y, Z, hq, hr, hal, hn, hf0, hf1', hB⟩ := h
  obtain ⟨N, hN, hG⟩ := gap_ex g f (fun j hj => by
    cases e : g (f + (j : Int)) with
    | none => rfl
    | some u => have := hal.1 _ (by rw [e]; rfl); omega)
  refine ⟨f, N, cell_regrown hr.c0, fun d os => ?_, fun d os => ?_, fun d os => ?_⟩
  · exact Calls.regrown_of ((from_any b f _ (cell_regrown hq.c0 d os)).mono fun _ _ ⟨e1, e2⟩ => ⟨e1, e2 ▸ Below.refl _ _⟩)
  · exact Calls.regrown_of (known_any b M n f p q r g _ (hq.below (below_regrown W d os)) hf0 (by omega) N hN hG)
  · refine Calls.regrown_of ((rknown_any c f p q r hs' X Y Z _ (hr.block ((below_regrown W d os).block c hr.lt)) N hN (fun j hj => ?_) (fun hlt => ?_)).mono fun _ _ ⟨e1, e2⟩ => ⟨e1, e2 ▸ Below.refl _ _⟩)
    · rw [← alike_some hal j (by omega)]; exact hG.1 j hj
    · rw [← alike_some hal N hlt]; exact hG.2

set_option maxRecDepth 100000 in
set_option maxHeartbeats 8000000 in
theorem law_QueuePlays (a0 : Int) (v1 v2 : Value) (a3 : Bool) (w : World) (w0 : (Lit.int .i64 a0).wf = true) (w1 : IsIn w v1) (w2 : IsOps w v2) :
    Calls Try.prog 5 #[.int .i64 a0, v1, v2, .bool a3] w fun e w' => e = .returned (.bool true) ∧ Below w.heap.size w w' := by
  obtain ⟨x, y, z, rfl, hx, hy, hz⟩ := w1
  obtain ⟨a1, len, cap, rfl, hl1, hl2, hel⟩ := w2
  unfold maxLen at hl2
  have Hel := Lib.hid hel
  clear hel w0
  obtain ⟨s, hs⟩ : ∃ s, w.heap.size = s := ⟨_, rfl⟩
  have HS := Lib.hid hs
  obtain ⟨f0, hf0⟩ : ∃ f : Int, f = IntKind.u64.wrap a0 % 1001 := ⟨_, rfl⟩
  have hfr0 := bits64 a0
  have hf1 : 0 ≤ f0 := by omega
  have hf2 : f0 ≤ 1000 := by omega
  have HF0 := Lib.hid hf0
  clear hf0
  go_enter Try.func5, Try.ntmps5
  go_wp2_with fail
  rw [← HF0.out]
  have hA : Below w.heap.size w (w.alloc (Obj.cells #[.int .i8 x, .int .i8 y, .int .u8 z] 24)) := below_alloc w _
  have hI := inAt_new w x y z
  have hz0 : (w.alloc (Obj.cells #[.int .i8 x, .int .i8 y, .int .u8 z] 24)).heap.size = w.heap.size + 1 := by simp
  generalize w.alloc (Obj.cells #[.int .i8 x, .int .i8 y, .int .u8 z] 24) = w0 at hI hA hz0 ⊢
  rw [hs] at hI hA hz0
  clear hs
  have HI := Lib.hid hI
  have HA := Lib.hid hA
  obtain ⟨i0, i1, i2⟩ := hI
  go_region_held3 (fun w' => w'.cell? ⟨s, 0, none⟩ = some (.int .i8 x) ∧ w'.cell? ⟨s, 1, none⟩ = some (.int .i8 y) ∧ w'.cell? ⟨s, 2, none⟩ = some (.int .u8 z)) (go_keep) (first
    | (go_at_call 13; refine (rnew_any f0 x y z _).mono ?_; rintro e w2 ⟨rfl, hr2, hB2, hz2⟩; have HR2 := Lib.hid hr2; have HB2 := Lib.hid hB2; clear i0 i1 i2; obtain ⟨i0, i1, i2⟩ := (HI1.out.below hB2).all; clear hr2 hB2)
    | (go_at_call 7; refine (new_any f0 x y z _).mono ?_; rintro e w1 ⟨b, M, rfl, hq1, hb, hM, hB1⟩; have HQ1 := Lib.hid hq1; have HB1 := Lib.hid (below_of_drew hB1); have HI1 := Lib.hid (HI.out.below (below_of_drew hB1)); clear i0 i1 i2; obtain ⟨i0, i1, i2⟩ := HI1.out.all; clear hq1 hB1))
  have hbs := cell_lt HQ1.out.c0
  have hMs := HQ1.out.map.lt
  have hne := HQ1.out.ne
  have hw1 := HB1.out.size
  obtain ⟨c, hc⟩ : ∃ c, c = w1.heap.size + 1 := ⟨_, rfl⟩
  rw [← hc] at HR2 ⊢
  have hQ2 := HQ1.out.below HB2.out
  have hB02 := HA.out.trans ((HB1.out.trans (HB2.out.mono hw1)).mono (by omega))
  rw [show w0.drew.heap.size = w0.heap.size from rfl, hz0] at hb hM
  have hcb : b < c := by omega
  have hcM : M < c := by omega
  have hP : PW s b M c w 0 w2 := ⟨_, 0, f0, x, y, z, _, _, _, _, hQ2, HR2.out, ⟨(fun k hk => by cases hk), fun j hj => rfl⟩, Nat.le_refl _, hf1, by omega, hB02⟩
  have HP := Lib.hid hP
  have HBB := Lib.hid hB02
  have hsz2 : s < w2.heap.size := by omega
  clear hP hQ2 hB02 HR2 HB2 HQ1 HB1 HI1 HI HA i0 i1 i2 hbs hMs hc hz2 hw1 hz0 HF0 hfr0
  by_cases hlen : (200 : Int) < (len : Int)
  · go_wp2_with fail
    refine (told_law _).mono ?_
    rintro e w6 ⟨rfl, hA⟩
    go_wp2_with fail
    go_ret
    exact ⟨rfl, by rw [HS.out]; exact HBB.out.trans (hA.mono (by omega))⟩
  · go_wp2_with fail
    go_loopw [12] (fun s8 wr => ∃ i : Nat, i ≤ len ∧ s8 = .int .i64 i ∧ PW s b M c w i wr) (fun s8 _ => len - (intOf s8).toNat)
    case atStart => exact ⟨0, by omega, rfl, HP.out⟩
    case round =>
      clear HP
      obtain ⟨i, hi, rfl, g, n, f, p, q, r, hs, X, Y, Z, hq, hr, hal, hn, hf0, hf1', hB⟩ := hrel
      by_cases hlt : i < len
      · obtain ⟨lb, lo, rfl, hbl, hcell⟩ := Hel.out (by omega)
        obtain ⟨ok, fr, ix, iy, iz, k0, k1, k2, k3, k4, r0, r1, r2, r3, r4⟩ := hcell i hlt
        rw [HS.out] at hbl
        have kb : ∀ o, wr.cell? ⟨lb, o, none⟩ = w.cell? ⟨lb, o, none⟩ := fun o => (hB.cell (p := ⟨lb, o, none⟩) (by exact hbl))
        rw [← kb] at k0 k1 k2 k3 k4
        clear hcell kb
        have HQ := Lib.hid hq
        have HR := Lib.hid hr
        have HAL := Lib.hid hal
        have HB := Lib.hid hB
        have hl1 := cell_lt k0
        clear hq hr hal hB
        have hbt : b < wr.heap.size := cell_lt HQ.out.c0
        have hMt := HQ.out.map.lt
        have hct := HR.out.lt
        have hst : s ≤ wr.heap.size := by have := HB.out.size; have := HS.out; omega
        have hne' := HQ.out.ne
        cases a3
        · by_cases hk0 : ((wrap64 (ok.tmod 3 + 3)).tmod 3 == 0) = true
          · go_wp2_with fail
            have hA := below_alloc wr (Obj.cells #[.int .i64 ok, .int .i64 fr, .int .i8 ix, .int .i8 iy, .int .u8 iz] 31)
            have HO := Lib.hid (opAt_new wr ok fr ix iy iz)
            replace HQ := Lib.hid (HQ.out.below hA)
            replace HR := Lib.hid (HR.out.block (hA.block c HR.out.lt))
            replace HB := Lib.hid (HB.out.trans (hA.mono (by have := HB.out.size; have := HS.out; omega)))
            clear hA
            generalize wr.alloc (Obj.cells #[.int .i64 ok, .int .i64 fr, .int .i8 ix, .int .i8 iy, .int .u8 iz] 31) = w3 at HQ HR HB HO ⊢
            obtain ⟨t, ht⟩ : ∃ t, wr.heap.size = t := ⟨_, rfl⟩
            rw [ht] at HO ⊢
            rw [ht] at hbt hMt hct hst
            clear ht k0 k1 k2 k3 k4
            obtain ⟨o0, o1, o2, o3, o4, o5⟩ := HO.out
            have hP1 := put_any b M n f p q r g (fr) ix iy iz w3.drew HQ.out.drew (by omega) (by omega) (by omega) (by omega) (by omega)
            have HP1 := Lib.hid hP1
            clear hP1
            go_region_held3 (fun w' => w'.cell? ⟨t, 1, none⟩ = some (.int .i64 (fr)) ∧ w'.cell? ⟨t, 2, none⟩ = some (.int .i8 ix) ∧ w'.cell? ⟨t, 3, none⟩ = some (.int .i8 iy) ∧ w'.cell? ⟨t, 4, none⟩ = some (.int .u8 iz)) (go_keep) (first
              | (go_at_call 14; refine (rput_any c f p q r hs X Y Z g (fr) ix iy iz _ HR4.out HAL.out (by omega) (by omega) (by omega) (by omega) (by omega)).mono ?_; rintro e w5 ⟨rfl, h5, k5⟩; have H5 := Lib.hid h5; have K5 := Lib.hid k5; clear o0 o1 o2 o3 o4 o5; obtain ⟨o0, o1, o2, o3, o4, o5⟩ := HO4.out.block (k5.block t HO4.out.lt (by omega)); clear h5 k5)
              | (go_at_call 10; refine HP1.out.mono ?_; rintro e w4 ⟨rfl, h4, k4⟩; have H4 := Lib.hid h4; have K4 := Lib.hid ((Kept.refl (fun k => k = M) w3).drew.trans k4); have HR4 := Lib.hid (HR.out.block (K4.out.block c HR.out.lt (by omega))); have HO4 := Lib.hid (HO.out.block (K4.out.block t HO.out.lt (by omega))); clear o0 o1 o2 o3 o4 o5; obtain ⟨o0, o1, o2, o3, o4, o5⟩ := HO4.out; clear h4 k4))
            have hw3 := HO.out.lt
            have hw4 := K4.out.size
            have hw5 := K5.out.size
            have hq5 := H4.out.kept K5.out (by omega) (by omega)
            have hB5 := (HB.out.trans (K4.out.below (B := s) (fun k hk => by omega) (by omega))).trans (K5.out.below (B := s) (fun k hk => by omega) (by omega))
            have hPW : PW s b M c w (i + 1) w5 := ⟨_, n + 1, f, p, q, r, _, _, _, _, hq5, H5.out, alike_put HAL.out (fr) ix iy iz, by omega, hf0, by omega, hB5⟩
            have HPW := Lib.hid hPW
            have hszW : s ≤ w5.heap.size := by omega
            have hbW : b < w5.heap.size := cell_lt hq5.c0
            clear hPW hq5 hB5 H4 H5 K4 K5 HR4 HO4 HP1 HO HQ HR HB HAL o0 o1 o2 o3 o4 o5
            go_wp2_with fail
            obtain ⟨ff, NN, l0, l1, l2, l3⟩ := HPW.out.looks (by omega)
            have L1 := Lib.hid l1
            have L2 := Lib.hid l2
            have L3 := Lib.hid l3
            clear l1 l2 l3
            refine wp_region_quiet_below (by kernel_rfl) (by kernel_rfl) ?_
            repeat (go_big_quiet_step (first | exact L1.out _ _ | exact L2.out _ _ | exact L3.out _ _))
            refine wpQuiet_nil ?_
            intro _ hw'
            obtain ⟨⟨nq, osq⟩, hw''⟩ := hw'
            subst hw''
            have HEND := Lib.hid (HPW.out.grown hszW hbW nq osq)
            go_wp2_with fail
            go_roundw
            case rel => exact ⟨i + 1, by omega, by go_num, HEND.out⟩
            case measure => simp [intOf]; omega
          · have hk0' : ((wrap64 (ok.tmod 3 + 3)).tmod 3 == 0) = false := by simpa using hk0
            clear hk0
            by_cases hk1 : ((wrap64 (ok.tmod 3 + 3)).tmod 3 == 1) = true
            · go_wp2_with fail
              have hA := below_alloc wr (Obj.cells #[.int .i64 ok, .int .i64 fr, .int .i8 ix, .int .i8 iy, .int .u8 iz] 31)
              have HO := Lib.hid (opAt_new wr ok fr ix iy iz)
              replace HQ := Lib.hid (HQ.out.below hA)
              replace HR := Lib.hid (HR.out.block (hA.block c HR.out.lt))
              replace HB := Lib.hid (HB.out.trans (hA.mono (by have := HB.out.size; have := HS.out; omega)))
              clear hA
              generalize wr.alloc (Obj.cells #[.int .i64 ok, .int .i64 fr, .int .i8 ix, .int .i8 iy, .int .u8 iz] 31) = w3 at HQ HR HB HO ⊢
              obtain ⟨t, ht⟩ : ∃ t, wr.heap.size = t := ⟨_, rfl⟩
              rw [ht] at HO ⊢
              rw [ht] at hbt hMt hct hst
              clear ht k0 k1 k2 k3 k4
              obtain ⟨o0, o1, o2, o3, o4, o5⟩ := HO.out
              refine (done_any b M n f p q r g ix iy iz w3 HQ.out (by omega) (by omega)).mono ?_
              rintro e w4 ⟨rfl, h4, k4⟩
              have H4 := Lib.hid h4
              have K4 := Lib.hid k4
              have HR4 := Lib.hid (HR.out.block (k4.block c HR.out.lt (by omega)))
              have HO4 := Lib.hid (HO.out.block (k4.block t HO.out.lt (by omega)))
              clear o0 o1 o2 o3 o4 o5 h4 k4
              obtain ⟨o0, o1, o2, o3, o4, o5⟩ := HO4.out
              go_wp2_with fail
              refine (rdone_any c f p q r hs X Y Z ix iy iz w4 HR4.out (by omega) (by omega)).mono ?_
              rintro e w5 ⟨rfl, h5, k5⟩
              have hw3 := HO.out.lt
              have hw4 := K4.out.size
              have hw5 := k5.size
              have hq5 := H4.out.kept k5 (by omega) (by omega)
              have hB5 := (HB.out.trans (K4.out.below (B := s) (fun k hk => by omega) (by omega))).trans (k5.below (B := s) (fun k hk => by omega) (by omega))
              have hPW : PW s b M c w (i + 1) w5 := ⟨_, n, f + 1, ix, iy, iz, _, _, _, _, hq5, h5, alike_done HAL.out, by omega, by omega, by omega, hB5⟩
              have HPW := Lib.hid hPW
              have hszW : s ≤ w5.heap.size := by omega
              have hbW : b < w5.heap.size := cell_lt hq5.c0
              clear hPW hq5 hB5 H4 h5 K4 k5 HR4 HO4 HO HQ HR HB HAL o0 o1 o2 o3 o4 o5
              go_wp2_with fail
              obtain ⟨ff, NN, l0, l1, l2, l3⟩ := HPW.out.looks (by omega)
              have L1 := Lib.hid l1
              have L2 := Lib.hid l2
              have L3 := Lib.hid l3
              clear l1 l2 l3
              refine wp_region_quiet_below (by kernel_rfl) (by kernel_rfl) ?_
              repeat (go_big_quiet_step (first | exact L1.out _ _ | exact L2.out _ _ | exact L3.out _ _))
              refine wpQuiet_nil ?_
              intro _ hw'
              obtain ⟨⟨nq, osq⟩, hw''⟩ := hw'
              subst hw''
              have HEND := Lib.hid (HPW.out.grown hszW hbW nq osq)
              go_wp2_with fail
              go_roundw
              case rel => exact ⟨i + 1, by omega, by go_num, HEND.out⟩
              case measure => simp [intOf]; omega
            · have hk1' : ((wrap64 (ok.tmod 3 + 3)).tmod 3 == 1) = false := by simpa using hk1
              clear hk1
              by_cases hfl : fr < 0
              · go_wp2_with fail
                have hA := below_alloc wr (Obj.cells #[.int .i64 ok, .int .i64 fr, .int .i8 ix, .int .i8 iy, .int .u8 iz] 31)
                have hPW : PW s b M c w (i + 1) (wr.alloc (Obj.cells #[.int .i64 ok, .int .i64 fr, .int .i8 ix, .int .i8 iy, .int .u8 iz] 31)) := ⟨_, n, f, p, q, r, _, _, _, _, HQ.out.below hA, HR.out.block (hA.block c HR.out.lt), HAL.out, by omega, by omega, by omega, HB.out.trans (hA.mono (by have := HB.out.size; have := HS.out; omega))⟩
                have HPW := Lib.hid hPW
                clear hPW hA
                go_roundw
                case rel => exact ⟨i + 1, by omega, by go_num, HPW.out⟩
                case measure => simp [intOf]; omega
              · by_cases hfh : (1099511627776 : Int) < fr
                · go_wp2_with fail
                  have hA := below_alloc wr (Obj.cells #[.int .i64 ok, .int .i64 fr, .int .i8 ix, .int .i8 iy, .int .u8 iz] 31)
                  have hPW : PW s b M c w (i + 1) (wr.alloc (Obj.cells #[.int .i64 ok, .int .i64 fr, .int .i8 ix, .int .i8 iy, .int .u8 iz] 31)) := ⟨_, n, f, p, q, r, _, _, _, _, HQ.out.below hA, HR.out.block (hA.block c HR.out.lt), HAL.out, by omega, by omega, by omega, HB.out.trans (hA.mono (by have := HB.out.size; have := HS.out; omega))⟩
                  have HPW := Lib.hid hPW
                  clear hPW hA
                  go_roundw
                  case rel => exact ⟨i + 1, by omega, by go_num, HPW.out⟩
                  case measure => simp [intOf]; omega
                · go_wp2_with fail
                  have hA := below_alloc wr (Obj.cells #[.int .i64 ok, .int .i64 fr, .int .i8 ix, .int .i8 iy, .int .u8 iz] 31)
                  have HO := Lib.hid (opAt_new wr ok fr ix iy iz)
                  replace HQ := Lib.hid (HQ.out.below hA)
                  replace HR := Lib.hid (HR.out.block (hA.block c HR.out.lt))
                  replace HB := Lib.hid (HB.out.trans (hA.mono (by have := HB.out.size; have := HS.out; omega)))
                  clear hA
                  generalize wr.alloc (Obj.cells #[.int .i64 ok, .int .i64 fr, .int .i8 ix, .int .i8 iy, .int .u8 iz] 31) = w3 at HQ HR HB HO ⊢
                  obtain ⟨t, ht⟩ : ∃ t, wr.heap.size = t := ⟨_, rfl⟩
                  rw [ht] at HO ⊢
                  rw [ht] at hbt hMt hct hst
                  clear ht k0 k1 k2 k3 k4
                  obtain ⟨o0, o1, o2, o3, o4, o5⟩ := HO.out
                  obtain ⟨a, bb, d, hV⟩ : ∃ a bb d, atV g f (inV p q r) (fr) = inV a bb d := back_in (fun j v hv => HQ.out.vals _ v hv) _ p q r
                  obtain ⟨is, his⟩ : ∃ is, (g (fr)).isSome = is := ⟨_, rfl⟩
                  have HV := Lib.hid hV
                  have HI := Lib.hid his
                  clear hV his
                  refine (at_any b M n f p q r g (fr) w3 HQ.out HAL.out.1 (by omega) (by omega) (by omega) (by omega) (inV a bb d) is HV.out HI.out).mono ?_
                  unfold inV
                  rintro e w4 ⟨rfl, hA⟩
                  have hb3 := hA.trans ((below_alloc w4 (Obj.cells #[.int .i8 a, .int .i8 bb, .int .u8 d] 24)).mono hA.size)
                  have HQ4 := Lib.hid (HQ.out.below hb3)
                  have HR4 := Lib.hid (HR.out.block (hb3.block c HR.out.lt))
                  have HO4 := Lib.hid (HO.out.block (hb3.block t HO.out.lt))
                  have HX4 := Lib.hid (inAt_new w4 a bb d)
                  have HB4 := Lib.hid (HB.out.trans (hb3.mono (by have := HO.out.lt; omega)))
                  clear hA hb3 o0 o1 o2 o3 o4 o5 HQ HR HO HB
                  obtain ⟨o0, o1, o2, o3, o4, o5⟩ := HO4.out
                  go_wp2_with fail
                  generalize w4.alloc (Obj.cells #[.int .i8 a, .int .i8 bb, .int .u8 d] 24) = w5 at HQ4 HR4 HO4 HX4 HB4 ⊢
                  obtain ⟨t4, ht4⟩ : ∃ t, w4.heap.size = t := ⟨_, rfl⟩
                  rw [ht4] at HX4 ⊢
                  clear ht4 o0 o1 o2 o3 o4 o5
                  refine (rat_any c f p q r hs X Y Z g (fr) w5 HR4.out HAL.out hf0 (by omega) (by omega) (inV a bb d) is HV.out HI.out).mono ?_
                  unfold inV
                  rintro e w6 ⟨rfl, hA⟩
                  have hb3 := hA.trans ((below_alloc w6 (Obj.cells #[.int .i8 a, .int .i8 bb, .int .u8 d] 24)).mono hA.size)
                  obtain ⟨x0, x1, x2⟩ := HX4.out.below hb3
                  obtain ⟨y0, y1, y2⟩ := inAt_new w6 a bb d
                  have hs5 := HO4.out.lt
                  have hs6 := hb3.size
                  have hq7 := HQ4.out.below hb3
                  have hPW : PW s b M c w (i + 1) (w6.alloc (Obj.cells #[.int .i8 a, .int .i8 bb, .int .u8 d] 24)) := ⟨_, n, f, p, q, r, _, _, _, _, hq7, HR4.out.block (hb3.block c HR4.out.lt), HAL.out, by omega, by omega, by omega, HB4.out.trans (hb3.mono (by omega))⟩
                  have HPW := Lib.hid hPW
                  have hszW : s ≤ (w6.alloc (Obj.cells #[.int .i8 a, .int .i8 bb, .int .u8 d] 24)).heap.size := by omega
                  have hbW : b < (w6.alloc (Obj.cells #[.int .i8 a, .int .i8 bb, .int .u8 d] 24)).heap.size := cell_lt hq7.c0
                  clear hPW hq7 hA hb3 HQ4 HR4 HO4 HX4 HB4 HAL hs6
                  go_wp2_with fail
                  generalize w6.alloc (Obj.cells #[.int .i8 a, .int .i8 bb, .int .u8 d] 24) = w7 at HPW hszW hbW ⊢
                  clear x0 x1 x2 y0 y1 y2
                  obtain ⟨ff, NN, l0, l1, l2, l3⟩ := HPW.out.looks (by omega)
                  have L1 := Lib.hid l1
                  have L2 := Lib.hid l2
                  have L3 := Lib.hid l3
                  clear l1 l2 l3
                  refine wp_region_quiet_below (by kernel_rfl) (by kernel_rfl) ?_
                  repeat (go_big_quiet_step (first | exact L1.out _ _ | exact L2.out _ _ | exact L3.out _ _))
                  refine wpQuiet_nil ?_
                  intro _ hw'
                  obtain ⟨⟨nq, osq⟩, hw''⟩ := hw'
                  subst hw''
                  have HEND := Lib.hid (HPW.out.grown hszW hbW nq osq)
                  go_wp2_with fail
                  go_roundw
                  case rel => exact ⟨i + 1, by omega, by go_num, HEND.out⟩
                  case measure => simp [intOf]; omega
        · obtain ⟨m, hm⟩ : ∃ m : Nat, (m : Int) = IntKind.u64.wrap fr % 70 := ⟨(IntKind.u64.wrap fr % 70).toNat, by have := bits64 fr; omega⟩
          have hm1 : m < 70 := by have := bits64 fr; omega
          have hfr0 := bits64 fr
          have Hm := Lib.hid hm
          clear hm
          by_cases hk0 : ((wrap64 (ok.tmod 3 + 3)).tmod 3 == 0) = true
          · go_wp2_with fail
            have hA := below_alloc wr (Obj.cells #[.int .i64 ok, .int .i64 fr, .int .i8 ix, .int .i8 iy, .int .u8 iz] 31)
            have HO := Lib.hid (opAt_new wr ok fr ix iy iz)
            replace HQ := Lib.hid (HQ.out.below hA)
            replace HR := Lib.hid (HR.out.block (hA.block c HR.out.lt))
            replace HB := Lib.hid (HB.out.trans (hA.mono (by have := HB.out.size; have := HS.out; omega)))
            clear hA
            generalize wr.alloc (Obj.cells #[.int .i64 ok, .int .i64 fr, .int .i8 ix, .int .i8 iy, .int .u8 iz] 31) = w3 at HQ HR HB HO ⊢
            obtain ⟨t, ht⟩ : ∃ t, wr.heap.size = t := ⟨_, rfl⟩
            rw [ht] at HO ⊢
            rw [ht] at hbt hMt hct hst
            clear ht k0 k1 k2 k3 k4
            obtain ⟨o0, o1, o2, o3, o4, o5⟩ := HO.out
            have hrc := HR.out.c0
            have e1 : (IntKind.u64.wrap fr).tmod 70 = (m : Int) := by rw [Int.tmod_eq_emod_of_nonneg (bits64 fr), Hm.out]
            have e2 : IntKind.i64.wrap (m : Int) = (m : Int) := IntWalk.i64_in _ (by omega)
            have e3 : IntKind.i64.wrap (f + (m : Int)) = f + (m : Int) := IntWalk.i64_in _ (by omega)
            have e4 : IntKind.i64.wrap (f + (m : Int) - 3) = f + (m : Int) - 3 := IntWalk.i64_in _ (by omega)
            have e5 : IntKind.u64.wrap (m : Int) = (m : Int) := by simp [IntKind.wrap, IntKind.bits, IntKind.signed]; omega
            refine region_tail 12 (by kernel_rfl) (by kernel_rfl) ?_
            simp only [List.take_succ_cons, List.take_zero, List.drop_succ_cons, List.drop_zero]
            repeat still_step
            refine wpStill_nil ?_
            clear e1 e2 e3 e4 e5
            have hW : Kept (fun b => b = t) w3 (w3.setCell ⟨t, 1, none⟩ (.int .i64 (f + (m : Int) - 3))).drew := ((Kept.refl _ _).setSelf _).drew
            replace HQ := Lib.hid (HQ.out.kept hW (by omega) (by omega))
            replace HR := Lib.hid (HR.out.block (hW.block c HR.out.lt (by omega)))
            replace HB := Lib.hid (HB.out.trans (hW.below (B := s) (fun k hk => by omega) (by have := HO.out.lt; omega)))
            replace HO := Lib.hid ((HO.out.setF (f + (m : Int) - 3)).block (w' := (w3.setCell ⟨t, 1, none⟩ (.int .i64 (f + (m : Int) - 3))).drew) rfl)
            go_wp2_with fail
            generalize (w3.setCell ⟨t, 1, none⟩ (.int .i64 (f + (m : Int) - 3))).drew = w30 at HQ HR HB HO ⊢
            clear o0 o1 o2 o3 o4 o5 hrc hW
            obtain ⟨o0, o1, o2, o3, o4, o5⟩ := HO.out
            have hP1 := put_any b M n f p q r g (f + (m : Int) - 3) ix iy iz w30.drew HQ.out.drew (by omega) (by omega) (by omega) (by omega) (by omega)
            have HP1 := Lib.hid hP1
            clear hP1
            go_region_held3 (fun w' => w'.cell? ⟨t, 1, none⟩ = some (.int .i64 (f + (m : Int) - 3)) ∧ w'.cell? ⟨t, 2, none⟩ = some (.int .i8 ix) ∧ w'.cell? ⟨t, 3, none⟩ = some (.int .i8 iy) ∧ w'.cell? ⟨t, 4, none⟩ = some (.int .u8 iz)) (go_keep) (first
              | (go_at_call 14; refine (rput_any c f p q r hs X Y Z g (f + (m : Int) - 3) ix iy iz _ HR4.out HAL.out (by omega) (by omega) (by omega) (by omega) (by omega)).mono ?_; rintro e w5 ⟨rfl, h5, k5⟩; have H5 := Lib.hid h5; have K5 := Lib.hid k5; clear o0 o1 o2 o3 o4 o5; obtain ⟨o0, o1, o2, o3, o4, o5⟩ := HO4.out.block (k5.block t HO4.out.lt (by omega)); clear h5 k5)
              | (go_at_call 10; refine HP1.out.mono ?_; rintro e w4 ⟨rfl, h4, k4⟩; have H4 := Lib.hid h4; have K4 := Lib.hid ((Kept.refl (fun k => k = M) w30).drew.trans k4); have HR4 := Lib.hid (HR.out.block (K4.out.block c HR.out.lt (by omega))); have HO4 := Lib.hid (HO.out.block (K4.out.block t HO.out.lt (by omega))); clear o0 o1 o2 o3 o4 o5; obtain ⟨o0, o1, o2, o3, o4, o5⟩ := HO4.out; clear h4 k4))
            have hw3 := HO.out.lt
            have hw4 := K4.out.size
            have hw5 := K5.out.size
            have hq5 := H4.out.kept K5.out (by omega) (by omega)
            have hB5 := (HB.out.trans (K4.out.below (B := s) (fun k hk => by omega) (by omega))).trans (K5.out.below (B := s) (fun k hk => by omega) (by omega))
            have hPW : PW s b M c w (i + 1) w5 := ⟨_, n + 1, f, p, q, r, _, _, _, _, hq5, H5.out, alike_put HAL.out (f + (m : Int) - 3) ix iy iz, by omega, hf0, by omega, hB5⟩
            have HPW := Lib.hid hPW
            have hszW : s ≤ w5.heap.size := by omega
            have hbW : b < w5.heap.size := cell_lt hq5.c0
            clear hPW hq5 hB5 H4 H5 K4 K5 HR4 HO4 HP1 HO HQ HR HB HAL o0 o1 o2 o3 o4 o5
            go_wp2_with fail
            obtain ⟨ff, NN, l0, l1, l2, l3⟩ := HPW.out.looks (by omega)
            have L1 := Lib.hid l1
            have L2 := Lib.hid l2
            have L3 := Lib.hid l3
            clear l1 l2 l3
            refine wp_region_quiet_below (by kernel_rfl) (by kernel_rfl) ?_
            repeat (go_big_quiet_step (first | exact L1.out _ _ | exact L2.out _ _ | exact L3.out _ _))
            refine wpQuiet_nil ?_
            intro _ hw'
            obtain ⟨⟨nq, osq⟩, hw''⟩ := hw'
            subst hw''
            have HEND := Lib.hid (HPW.out.grown hszW hbW nq osq)
            go_wp2_with fail
            go_roundw
            case rel => exact ⟨i + 1, by omega, by go_num, HEND.out⟩
            case measure => simp [intOf]; omega
          · have hk0' : ((wrap64 (ok.tmod 3 + 3)).tmod 3 == 0) = false := by simpa using hk0
            clear hk0
            by_cases hk1 : ((wrap64 (ok.tmod 3 + 3)).tmod 3 == 1) = true
            · go_wp2_with fail
              have hA := below_alloc wr (Obj.cells #[.int .i64 ok, .int .i64 fr, .int .i8 ix, .int .i8 iy, .int .u8 iz] 31)
              have HO := Lib.hid (opAt_new wr ok fr ix iy iz)
              replace HQ := Lib.hid (HQ.out.below hA)
              replace HR := Lib.hid (HR.out.block (hA.block c HR.out.lt))
              replace HB := Lib.hid (HB.out.trans (hA.mono (by have := HB.out.size; have := HS.out; omega)))
              clear hA
              generalize wr.alloc (Obj.cells #[.int .i64 ok, .int .i64 fr, .int .i8 ix, .int .i8 iy, .int .u8 iz] 31) = w3 at HQ HR HB HO ⊢
              obtain ⟨t, ht⟩ : ∃ t, wr.heap.size = t := ⟨_, rfl⟩
              rw [ht] at HO ⊢
              rw [ht] at hbt hMt hct hst
              clear ht k0 k1 k2 k3 k4
              obtain ⟨o0, o1, o2, o3, o4, o5⟩ := HO.out
              have hrc := HR.out.c0
              have e1 : (IntKind.u64.wrap fr).tmod 70 = (m : Int) := by rw [Int.tmod_eq_emod_of_nonneg (bits64 fr), Hm.out]
              have e2 : IntKind.i64.wrap (m : Int) = (m : Int) := IntWalk.i64_in _ (by omega)
              have e3 : IntKind.i64.wrap (f + (m : Int)) = f + (m : Int) := IntWalk.i64_in _ (by omega)
              have e4 : IntKind.i64.wrap (f + (m : Int) - 3) = f + (m : Int) - 3 := IntWalk.i64_in _ (by omega)
              have e5 : IntKind.u64.wrap (m : Int) = (m : Int) := by simp [IntKind.wrap, IntKind.bits, IntKind.signed]; omega
              refine region_tail 12 (by kernel_rfl) (by kernel_rfl) ?_
              simp only [List.take_succ_cons, List.take_zero, List.drop_succ_cons, List.drop_zero]
              repeat still_step
              refine wpStill_nil ?_
              clear e1 e2 e3 e4 e5
              have hW : Kept (fun b => b = t) w3 (w3.setCell ⟨t, 1, none⟩ (.int .i64 (f + (m : Int) - 3))).drew := ((Kept.refl _ _).setSelf _).drew
              replace HQ := Lib.hid (HQ.out.kept hW (by omega) (by omega))
              replace HR := Lib.hid (HR.out.block (hW.block c HR.out.lt (by omega)))
              replace HB := Lib.hid (HB.out.trans (hW.below (B := s) (fun k hk => by omega) (by have := HO.out.lt; omega)))
              replace HO := Lib.hid ((HO.out.setF (f + (m : Int) - 3)).block (w' := (w3.setCell ⟨t, 1, none⟩ (.int .i64 (f + (m : Int) - 3))).drew) rfl)
              go_wp2_with fail
              generalize (w3.setCell ⟨t, 1, none⟩ (.int .i64 (f + (m : Int) - 3))).drew = w30 at HQ HR HB HO ⊢
              clear o0 o1 o2 o3 o4 o5 hrc hW
              obtain ⟨o0, o1, o2, o3, o4, o5⟩ := HO.out
              refine (done_any b M n f p q r g ix iy iz w30 HQ.out (by omega) (by omega)).mono ?_
              rintro e w4 ⟨rfl, h4, k4⟩
              have H4 := Lib.hid h4
              have K4 := Lib.hid k4
              have HR4 := Lib.hid (HR.out.block (k4.block c HR.out.lt (by omega)))
              have HO4 := Lib.hid (HO.out.block (k4.block t HO.out.lt (by omega)))
              clear o0 o1 o2 o3 o4 o5 h4 k4
              obtain ⟨o0, o1, o2, o3, o4, o5⟩ := HO4.out
              go_wp2_with fail
              refine (rdone_any c f p q r hs X Y Z ix iy iz w4 HR4.out (by omega) (by omega)).mono ?_
              rintro e w5 ⟨rfl, h5, k5⟩
              have hw3 := HO.out.lt
              have hw4 := K4.out.size
              have hw5 := k5.size
              have hq5 := H4.out.kept k5 (by omega) (by omega)
              have hB5 := (HB.out.trans (K4.out.below (B := s) (fun k hk => by omega) (by omega))).trans (k5.below (B := s) (fun k hk => by omega) (by omega))
              have hPW : PW s b M c w (i + 1) w5 := ⟨_, n, f + 1, ix, iy, iz, _, _, _, _, hq5, h5, alike_done HAL.out, by omega, by omega, by omega, hB5⟩
              have HPW := Lib.hid hPW
              have hszW : s ≤ w5.heap.size := by omega
              have hbW : b < w5.heap.size := cell_lt hq5.c0
              clear hPW hq5 hB5 H4 h5 K4 k5 HR4 HO4 HO HQ HR HB HAL o0 o1 o2 o3 o4 o5
              go_wp2_with fail
              obtain ⟨ff, NN, l0, l1, l2, l3⟩ := HPW.out.looks (by omega)
              have L1 := Lib.hid l1
              have L2 := Lib.hid l2
              have L3 := Lib.hid l3
              clear l1 l2 l3
              refine wp_region_quiet_below (by kernel_rfl) (by kernel_rfl) ?_
              repeat (go_big_quiet_step (first | exact L1.out _ _ | exact L2.out _ _ | exact L3.out _ _))
              refine wpQuiet_nil ?_
              intro _ hw'
              obtain ⟨⟨nq, osq⟩, hw''⟩ := hw'
              subst hw''
              have HEND := Lib.hid (HPW.out.grown hszW hbW nq osq)
              go_wp2_with fail
              go_roundw
              case rel => exact ⟨i + 1, by omega, by go_num, HEND.out⟩
              case measure => simp [intOf]; omega
            · have hk1' : ((wrap64 (ok.tmod 3 + 3)).tmod 3 == 1) = false := by simpa using hk1
              clear hk1
              by_cases hfl : f + (m : Int) - 3 < 0
              · go_wp2_with fail
                have hA := below_alloc wr (Obj.cells #[.int .i64 ok, .int .i64 fr, .int .i8 ix, .int .i8 iy, .int .u8 iz] 31)
                have HO := Lib.hid (opAt_new wr ok fr ix iy iz)
                replace HQ := Lib.hid (HQ.out.below hA)
                replace HR := Lib.hid (HR.out.block (hA.block c HR.out.lt))
                replace HB := Lib.hid (HB.out.trans (hA.mono (by have := HB.out.size; have := HS.out; omega)))
                clear hA
                generalize wr.alloc (Obj.cells #[.int .i64 ok, .int .i64 fr, .int .i8 ix, .int .i8 iy, .int .u8 iz] 31) = w3 at HQ HR HB HO ⊢
                obtain ⟨t, ht⟩ : ∃ t, wr.heap.size = t := ⟨_, rfl⟩
                rw [ht] at HO ⊢
                rw [ht] at hbt hMt hct hst
                clear ht k0 k1 k2 k3 k4
                obtain ⟨o0, o1, o2, o3, o4, o5⟩ := HO.out
                have hrc := HR.out.c0
                have e1 : (IntKind.u64.wrap fr).tmod 70 = (m : Int) := by rw [Int.tmod_eq_emod_of_nonneg (bits64 fr), Hm.out]
                have e2 : IntKind.i64.wrap (m : Int) = (m : Int) := IntWalk.i64_in _ (by omega)
                have e3 : IntKind.i64.wrap (f + (m : Int)) = f + (m : Int) := IntWalk.i64_in _ (by omega)
                have e4 : IntKind.i64.wrap (f + (m : Int) - 3) = f + (m : Int) - 3 := IntWalk.i64_in _ (by omega)
                have e5 : IntKind.u64.wrap (m : Int) = (m : Int) := by simp [IntKind.wrap, IntKind.bits, IntKind.signed]; omega
                refine region_tail 12 (by kernel_rfl) (by kernel_rfl) ?_
                simp only [List.take_succ_cons, List.take_zero, List.drop_succ_cons, List.drop_zero]
                repeat still_step
                refine wpStill_nil ?_
                clear e1 e2 e3 e4 e5
                have hW : Kept (fun b => b = t) w3 (w3.setCell ⟨t, 1, none⟩ (.int .i64 (f + (m : Int) - 3))).drew := ((Kept.refl _ _).setSelf _).drew
                replace HQ := Lib.hid (HQ.out.kept hW (by omega) (by omega))
                replace HR := Lib.hid (HR.out.block (hW.block c HR.out.lt (by omega)))
                replace HB := Lib.hid (HB.out.trans (hW.below (B := s) (fun k hk => by omega) (by have := HO.out.lt; omega)))
                replace HO := Lib.hid ((HO.out.setF (f + (m : Int) - 3)).block (w' := (w3.setCell ⟨t, 1, none⟩ (.int .i64 (f + (m : Int) - 3))).drew) rfl)
                go_wp2_with fail
                generalize (w3.setCell ⟨t, 1, none⟩ (.int .i64 (f + (m : Int) - 3))).drew = w30 at HQ HR HB HO ⊢
                clear o0 o1 o2 o3 o4 o5 hrc hW
                obtain ⟨o0, o1, o2, o3, o4, o5⟩ := HO.out
                have hPW : PW s b M c w (i + 1) w30 := ⟨_, n, f, p, q, r, _, _, _, _, HQ.out, HR.out, HAL.out, by omega, by omega, by omega, HB.out⟩
                have HPW := Lib.hid hPW
                clear hPW
                go_roundw
                case rel => exact ⟨i + 1, by omega, by go_num, HPW.out⟩
                case measure => simp [intOf]; omega
              · have hfh : ¬ (1099511627776 : Int) < f + (m : Int) - 3 := by omega
                go_wp2_with fail
                have hA := below_alloc wr (Obj.cells #[.int .i64 ok, .int .i64 fr, .int .i8 ix, .int .i8 iy, .int .u8 iz] 31)
                have HO := Lib.hid (opAt_new wr ok fr ix iy iz)
                replace HQ := Lib.hid (HQ.out.below hA)
                replace HR := Lib.hid (HR.out.block (hA.block c HR.out.lt))
                replace HB := Lib.hid (HB.out.trans (hA.mono (by have := HB.out.size; have := HS.out; omega)))
                clear hA
                generalize wr.alloc (Obj.cells #[.int .i64 ok, .int .i64 fr, .int .i8 ix, .int .i8 iy, .int .u8 iz] 31) = w3 at HQ HR HB HO ⊢
                obtain ⟨t, ht⟩ : ∃ t, wr.heap.size = t := ⟨_, rfl⟩
                rw [ht] at HO ⊢
                rw [ht] at hbt hMt hct hst
                clear ht k0 k1 k2 k3 k4
                obtain ⟨o0, o1, o2, o3, o4, o5⟩ := HO.out
                have hrc := HR.out.c0
                have e1 : (IntKind.u64.wrap fr).tmod 70 = (m : Int) := by rw [Int.tmod_eq_emod_of_nonneg (bits64 fr), Hm.out]
                have e2 : IntKind.i64.wrap (m : Int) = (m : Int) := IntWalk.i64_in _ (by omega)
                have e3 : IntKind.i64.wrap (f + (m : Int)) = f + (m : Int) := IntWalk.i64_in _ (by omega)
                have e4 : IntKind.i64.wrap (f + (m : Int) - 3) = f + (m : Int) - 3 := IntWalk.i64_in _ (by omega)
                have e5 : IntKind.u64.wrap (m : Int) = (m : Int) := by simp [IntKind.wrap, IntKind.bits, IntKind.signed]; omega
                refine region_tail 12 (by kernel_rfl) (by kernel_rfl) ?_
                simp only [List.take_succ_cons, List.take_zero, List.drop_succ_cons, List.drop_zero]
                repeat still_step
                refine wpStill_nil ?_
                clear e1 e2 e3 e4 e5
                have hW : Kept (fun b => b = t) w3 (w3.setCell ⟨t, 1, none⟩ (.int .i64 (f + (m : Int) - 3))).drew := ((Kept.refl _ _).setSelf _).drew
                replace HQ := Lib.hid (HQ.out.kept hW (by omega) (by omega))
                replace HR := Lib.hid (HR.out.block (hW.block c HR.out.lt (by omega)))
                replace HB := Lib.hid (HB.out.trans (hW.below (B := s) (fun k hk => by omega) (by have := HO.out.lt; omega)))
                replace HO := Lib.hid ((HO.out.setF (f + (m : Int) - 3)).block (w' := (w3.setCell ⟨t, 1, none⟩ (.int .i64 (f + (m : Int) - 3))).drew) rfl)
                go_wp2_with fail
                generalize (w3.setCell ⟨t, 1, none⟩ (.int .i64 (f + (m : Int) - 3))).drew = w30 at HQ HR HB HO ⊢
                clear o0 o1 o2 o3 o4 o5 hrc hW
                obtain ⟨o0, o1, o2, o3, o4, o5⟩ := HO.out
                obtain ⟨a, bb, d, hV⟩ : ∃ a bb d, atV g f (inV p q r) (f + (m : Int) - 3) = inV a bb d := back_in (fun j v hv => HQ.out.vals _ v hv) _ p q r
                obtain ⟨is, his⟩ : ∃ is, (g (f + (m : Int) - 3)).isSome = is := ⟨_, rfl⟩
                have HV := Lib.hid hV
                have HI := Lib.hid his
                clear hV his
                refine (at_any b M n f p q r g (f + (m : Int) - 3) w30 HQ.out HAL.out.1 (by omega) (by omega) (by omega) (by omega) (inV a bb d) is HV.out HI.out).mono ?_
                unfold inV
                rintro e w4 ⟨rfl, hA⟩
                have hb3 := hA.trans ((below_alloc w4 (Obj.cells #[.int .i8 a, .int .i8 bb, .int .u8 d] 24)).mono hA.size)
                have HQ4 := Lib.hid (HQ.out.below hb3)
                have HR4 := Lib.hid (HR.out.block (hb3.block c HR.out.lt))
                have HO4 := Lib.hid (HO.out.block (hb3.block t HO.out.lt))
                have HX4 := Lib.hid (inAt_new w4 a bb d)
                have HB4 := Lib.hid (HB.out.trans (hb3.mono (by have := HO.out.lt; omega)))
                clear hA hb3 o0 o1 o2 o3 o4 o5 HQ HR HO HB
                obtain ⟨o0, o1, o2, o3, o4, o5⟩ := HO4.out
                go_wp2_with fail
                generalize w4.alloc (Obj.cells #[.int .i8 a, .int .i8 bb, .int .u8 d] 24) = w5 at HQ4 HR4 HO4 HX4 HB4 ⊢
                obtain ⟨t4, ht4⟩ : ∃ t, w4.heap.size = t := ⟨_, rfl⟩
                rw [ht4] at HX4 ⊢
                clear ht4 o0 o1 o2 o3 o4 o5
                refine (rat_any c f p q r hs X Y Z g (f + (m : Int) - 3) w5 HR4.out HAL.out hf0 (by omega) (by omega) (inV a bb d) is HV.out HI.out).mono ?_
                unfold inV
                rintro e w6 ⟨rfl, hA⟩
                have hb3 := hA.trans ((below_alloc w6 (Obj.cells #[.int .i8 a, .int .i8 bb, .int .u8 d] 24)).mono hA.size)
                obtain ⟨x0, x1, x2⟩ := HX4.out.below hb3
                obtain ⟨y0, y1, y2⟩ := inAt_new w6 a bb d
                have hs5 := HO4.out.lt
                have hs6 := hb3.size
                have hq7 := HQ4.out.below hb3
                have hPW : PW s b M c w (i + 1) (w6.alloc (Obj.cells #[.int .i8 a, .int .i8 bb, .int .u8 d] 24)) := ⟨_, n, f, p, q, r, _, _, _, _, hq7, HR4.out.block (hb3.block c HR4.out.lt), HAL.out, by omega, by omega, by omega, HB4.out.trans (hb3.mono (by omega))⟩
                have HPW := Lib.hid hPW
                have hszW : s ≤ (w6.alloc (Obj.cells #[.int .i8 a, .int .i8 bb, .int .u8 d] 24)).heap.size := by omega
                have hbW : b < (w6.alloc (Obj.cells #[.int .i8 a, .int .i8 bb, .int .u8 d] 24)).heap.size := cell_lt hq7.c0
                clear hPW hq7 hA hb3 HQ4 HR4 HO4 HX4 HB4 HAL hs6
                go_wp2_with fail
                generalize w6.alloc (Obj.cells #[.int .i8 a, .int .i8 bb, .int .u8 d] 24) = w7 at HPW hszW hbW ⊢
                clear x0 x1 x2 y0 y1 y2
                obtain ⟨ff, NN, l0, l1, l2, l3⟩ := HPW.out.looks (by omega)
                have L1 := Lib.hid l1
                have L2 := Lib.hid l2
                have L3 := Lib.hid l3
                clear l1 l2 l3
                refine wp_region_quiet_below (by kernel_rfl) (by kernel_rfl) ?_
                repeat (go_big_quiet_step (first | exact L1.out _ _ | exact L2.out _ _ | exact L3.out _ _))
                refine wpQuiet_nil ?_
                intro _ hw'
                obtain ⟨⟨nq, osq⟩, hw''⟩ := hw'
                subst hw''
                have HEND := Lib.hid (HPW.out.grown hszW hbW nq osq)
                go_wp2_with fail
                go_roundw
                case rel => exact ⟨i + 1, by omega, by go_num, HEND.out⟩
                case measure => simp [intOf]; omega
      · go_wp2_with fail
        refine (told_law _).mono ?_
        rintro e w6 ⟨rfl, hA⟩
        go_wp2_with fail
        go_ret
        exact ⟨rfl, by rw [HS.out]; exact hB.trans (hA.mono (by have := hB.size; have := HS.out; omega))⟩
end Go.Proofs.Ytabgooglfgioiaa
