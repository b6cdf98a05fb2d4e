/-
  Roster: RosterTurns: the law, for any comings and goings.
-/
import Derived.Test.YthjabcogbjdkiaaS
namespace Go.Proofs.Ythjabcogbjdkiaa
set_option linter.unusedVariables false
open Go.ChangeShapes Go.WideShapes Go.ChangeAt Go.RowKit Go.Sort

/-- A slice of whole numbers that came in: nil, or a row of cells. -/
def IsRow (k : IntKind) (w : World) (a : Option Addr) (len cap : Nat) (zs : List Int) : Prop :=
  (a = none ∧ len = 0 ∧ cap = 0 ∧ zs = []) ∨
  ∃ x, a = some x ∧ len ≤ cap ∧ cap ≤ maxLen ∧ zs.length = cap ∧ (∀ i, i < zs.length → w.cell? (x.add i) = some (.int k (zs.getD i 0))) ∧ ∀ n ∈ zs, (Lit.int k n).wf = true

theorem isRow_of {H : Type} {enc : TypeId × Value → H} {P : Program} {w : World} {t e : TypeId} {k : IntKind} {a : Option Addr} {len cap : Nat} {d : DataW H} {p : List MemPlace}
    (ht : P.underlying t = some (.slice e)) (he : P.underlying e = some (.int k)) (hc : P.cellsOf e = 1)
    (h : DataW.Trod enc P w 0 (fun _ => true) true t (.slice a len cap) d p) : ∃ zs, IsRow k w a len cap zs := by
  obtain ⟨fuel, hf⟩ := h
  rcases open_ints ht he hc hf with ⟨hcs, _⟩ | ⟨x, l, c, zs, hcs, _, hl, hm, hz, _, hcell, hwz⟩
  · simp [Value.cells] at hcs
    obtain ⟨rfl, rfl, rfl⟩ := hcs
    exact ⟨[], .inl ⟨rfl, rfl, rfl, rfl⟩⟩
  · simp [Value.cells] at hcs
    obtain ⟨rfl, rfl, rfl⟩ := hcs
    exact ⟨zs, .inr ⟨_, rfl, hl, hm, by simpa using hz, hcell, hwz⟩⟩

/-- An element of the slice, where there is one. -/
theorem IsRow.elem {k : IntKind} {w : World} {a : Option Addr} {len cap : Nat} {zs : List Int} (h : IsRow k w a len cap zs) (hl : 0 < len) :
    ∃ b o, a = some ⟨b, o, none⟩ ∧ b < w.heap.size ∧ (∀ i, i < len → w.cell? ⟨b, o + i, none⟩ = some (.int k (zs.getD i 0))) ∧ (∀ i, i < len → (Lit.int k (zs.getD i 0)).wf = true) := by
  rcases h with ⟨_, h0, _⟩ | ⟨x, rfl, h1, h2, h3, h4, h5⟩
  · omega
  · obtain ⟨b, o, rfl, hc⟩ := ints_at h4 (by omega)
    refine ⟨b, o, rfl, block_of_cell (hc 0 (by omega)), fun i hi => hc i (by omega), fun i hi => ?_⟩
    have hi' : i < zs.length := by omega
    have : zs.getD i 0 = zs[i] := by simp [List.getD_eq_getElem?_getD, List.getElem?_eq_getElem hi']
    rw [this]
    exact h5 _ (List.getElem_mem _)

theorem IsRow.len_le {k : IntKind} {w : World} {a : Option Addr} {len cap : Nat} {zs : List Int} (h : IsRow k w a len cap zs) : len ≤ maxLen := by
  rcases h with ⟨_, h0, _⟩ | ⟨x, rfl, h1, h2, h3, h4, h5⟩
  · subst h0; exact Nat.zero_le _
  · omega


def TS (w : World) (t n : Nat) (wr : World) : Prop := ∃ v P G, RosAt wr t v P G ∧ mayR v P G = true ∧ 0 ≤ v ∧ v ≤ n ∧ Below w.heap.size w wr
set_option maxHeartbeats 2000000 in
theorem law_RosterTurns (a0 : Option Addr) (len0 cap0 : Nat) (z0 : List Int) (w : World) (w0 : IsRow .i64 w a0 len0 cap0 z0) :
    Calls Try.prog 3 #[.slice a0 len0 cap0] w fun e w' => e = .returned (.bool true) ∧ Below w.heap.size w w' := by
  have hel := fun h => w0.elem h
  have hle := w0.len_le
  unfold maxLen at hle
  clear w0
  have Hel := Lib.hid hel
  clear hel
  have hm0 : mayR 0 (fun _ => -1) (fun _ => 0) = true := by decide +kernel
  have HKn : Hid (∀ P G, P = (fun _ => (-1 : Int)) → G = (fun _ => (0 : Int)) → ∀ w, Calls Try.prog 6 #[] w fun e w' => e = .returned (.agg (rosL 0 P G).toArray) ∧ Below w.heap.size w w') := Lib.hid (fun P G hP hG w => by rw [hP, hG]; exact new_any w)
  obtain ⟨P0, hP0⟩ : ∃ P0 : Nat → Int, P0 = fun _ => -1 := ⟨_, rfl⟩
  obtain ⟨G0, hG0⟩ : ∃ G0 : Nat → Int, G0 = fun _ => 0 := ⟨_, rfl⟩
  rw [← hP0, ← hG0] at hm0
  have HKn0 := Lib.hid (HKn.out P0 G0 hP0 hG0)
  have HM0 := Lib.hid hm0
  clear hP0 hG0 HKn hm0
  go_enter Try.func3, Try.ntmps3
  go_wp2_with fail
  have HB := Lib.hid (Below.refl w.heap.size w)
  refine (HKn0.out _).mono ?_
  rintro e wA ⟨rfl, hbA⟩
  replace HB := Lib.hid (HB.out.trans (hbA.mono HB.out.size))
  clear hbA HKn0
  have hlo : w.heap.size ≤ wA.heap.size := HB.out.size
  try unfold rosV
  have hB := HB.out
  have hz : RosAt (wA.alloc (Obj.cells #[.int .i64 0, .int .i64 0, .int .i64 0, .int .i64 0, .int .i64 0, .int .i64 0, .int .i64 0, .int .i64 0, .int .i64 0, .int .i64 0, .int .i64 0, .int .i64 0, .int .i64 0, .int .i64 0, .int .i64 0, .int .i64 0, .int .i64 0] 27)) wA.heap.size 0 (fun _ => 0) (fun _ => 0) := rosAt_new 0 (fun _ => 0) (fun _ => 0) 27 wA
  have HST := Lib.hid (run_store_ros hz.there (0) (P0) (G0))
  have hW := below_setCells wA.heap.size (Nat.le_refl _) (rosL (0) (P0) (G0)) 0 ((Below.refl _ wA).alloc (Nat.le_refl _) (Obj.cells #[.int .i64 0, .int .i64 0, .int .i64 0, .int .i64 0, .int .i64 0, .int .i64 0, .int .i64 0, .int .i64 0, .int .i64 0, .int .i64 0, .int .i64 0, .int .i64 0, .int .i64 0, .int .i64 0, .int .i64 0, .int .i64 0, .int .i64 0] 27))
  have HR3 := Lib.hid (rosAt_stored hz.there (0) (P0) (G0))
  replace HB := Lib.hid (hB.trans (hW.mono hB.size))
  clear hB hW hz
  go_wp2_with fail
  rw [HST.out]
  clear HST
  generalize ((wA.alloc (Obj.cells #[.int .i64 0, .int .i64 0, .int .i64 0, .int .i64 0, .int .i64 0, .int .i64 0, .int .i64 0, .int .i64 0, .int .i64 0, .int .i64 0, .int .i64 0, .int .i64 0, .int .i64 0, .int .i64 0, .int .i64 0, .int .i64 0, .int .i64 0] 27)).setCells wA.heap.size 0 (rosL (0) (P0) (G0))) = w3 at *
  generalize wA.heap.size = t3 at *
  clear wA
  go_wp2_with fail
  go_loopw [4] (fun i wr => ∃ n : Nat, n ≤ len0 ∧ n ≤ 60 ∧ i = .int .i64 n ∧ TS w t3 n wr) (fun i _ => 60 - (intOf i).toNat)
  case atStart => exact ⟨0, by omega, by omega, rfl, 0, P0, G0, HR3.out, HM0.out, by omega, by omega, HB.out⟩
  case round =>
    obtain ⟨n, hn1, hn2, rfl, v, P, G, hr, hm, hv0, hv1, hB⟩ := hrel
    clear HR3 HB HM0
    have HR3 := Lib.hid hr
    have HB := Lib.hid hB
    have HM := Lib.hid hm
    clear hr hm
    by_cases hlt : n < len0
    · by_cases hlt2 : n < 60
      · obtain ⟨b, o, rfl, hbl, hcell, hwf⟩ := Hel.out (by omega)
        have hc := hcell n hlt
        have hx : 0 ≤ IntKind.u64.wrap (z0.getD n 0) := by simp [IntKind.wrap, IntKind.bits, IntKind.signed]; omega
        clear hcell hwf
        generalize z0.getD n 0 = x at *
        have hc' : wr.cell? ⟨b, o + n, none⟩ = some (.int .i64 x) := (hB.cell (p := ⟨b, o + n, none⟩) hbl).trans hc
        obtain ⟨p, hp⟩ : ∃ p : Int, p = IntKind.u64.wrap x % 12 := ⟨_, rfl⟩
        have hp0 : 0 ≤ p := by omega
        have hp1 : p < 12 := by omega
        have Hp := Lib.hid hp
        clear hp hc hB
        go_wp2_with fail
        rw [← Hp.out]
        obtain ⟨s, hs, hKs⟩ := of_det v p P G
        obtain ⟨f, hf, hKf⟩ := free_det v P G HM.out
        have HKs := Lib.hid hKs
        have HKf := Lib.hid hKf
        have HS := Lib.hid hs
        have HF := Lib.hid hf
        clear hKs hKf hs hf
        have HX := Lib.hid (fun d os => (HR3.out.block ((below_regrown wr d os).block _ HR3.out.lt)).range)
        refine wp_region_quiet_below (by kernel_rfl) (by kernel_rfl) ?_
        refine quiet_load_ros (by rfl) _ rfl t3 rfl (rosL (v) P G) (by rintro w' ⟨p, rfl⟩; exact HX.out p.d p.os) (size_27 _ _ _) ?_
        try simp only [Act.put, List.setIfInBounds_toArray, List.set_cons_zero, List.set_cons_succ]
        iterate 2 (go_big_quiet_step (exact Calls.regrown_of (HKs.out _)))
        refine quiet_load_ros (by rfl) _ rfl t3 rfl (rosL (v) P G) (by rintro w' ⟨p, rfl⟩; exact HX.out p.d p.os) (size_27 _ _ _) ?_
        try simp only [Act.put, List.setIfInBounds_toArray, List.set_cons_zero, List.set_cons_succ]
        repeat (go_big_quiet_step (exact Calls.regrown_of (HKf.out _)))
        refine wpQuiet_nil ?_
        intro w6 hw'
        obtain ⟨⟨nq, osq⟩, hw3⟩ := hw'
        have HR3' := Lib.hid (HR3.out.block ((below_regrown wr nq osq).block _ HR3.out.lt))
        have HB' := Lib.hid (HB.out.trans ((below_regrown wr nq osq).mono HB.out.size))
        rw [← hw3] at HR3' HB'
        clear hw3 HX HR3 HB HKs HKf hc'
        have HR3 := HR3'
        have HB := HB'
        clear HR3' HB'
        have HR3c := HR3
        have l3 := HR3.out.lt
        have hB := HB.out
        have HR3x := HR3.out
        have hz : RosAt (w6.alloc (Obj.cells #[.int .i64 0, .int .i64 0, .int .i64 0, .int .i64 0, .int .i64 0, .int .i64 0, .int .i64 0, .int .i64 0, .int .i64 0, .int .i64 0, .int .i64 0, .int .i64 0, .int .i64 0, .int .i64 0, .int .i64 0, .int .i64 0, .int .i64 0] 27)) w6.heap.size 0 (fun _ => 0) (fun _ => 0) := rosAt_new 0 (fun _ => 0) (fun _ => 0) 27 w6
        have HST := Lib.hid (run_store_ros hz.there (v) (P) (G))
        have hW := below_setCells w6.heap.size (Nat.le_refl _) (rosL (v) (P) (G)) 0 ((Below.refl _ w6).alloc (Nat.le_refl _) (Obj.cells #[.int .i64 0, .int .i64 0, .int .i64 0, .int .i64 0, .int .i64 0, .int .i64 0, .int .i64 0, .int .i64 0, .int .i64 0, .int .i64 0, .int .i64 0, .int .i64 0, .int .i64 0, .int .i64 0, .int .i64 0, .int .i64 0, .int .i64 0] 27))
        replace HR3 := Lib.hid (HR3x.block (hW.block _ HR3x.lt))
        clear HR3x
        have HR8 := Lib.hid (rosAt_stored hz.there (v) (P) (G))
        replace HB := Lib.hid (hB.trans (hW.mono hB.size))
        clear hB hW hz
        go_wp2_with (refine wpList_load_g (by rfl) 27 _ rfl t3 0 rfl _ _ HR3c.out.range Try.underlying27 rfl (size_27 _ _ _) ?_)
        rw [HST.out]
        clear HST
        generalize ((w6.alloc (Obj.cells #[.int .i64 0, .int .i64 0, .int .i64 0, .int .i64 0, .int .i64 0, .int .i64 0, .int .i64 0, .int .i64 0, .int .i64 0, .int .i64 0, .int .i64 0, .int .i64 0, .int .i64 0, .int .i64 0, .int .i64 0, .int .i64 0, .int .i64 0] 27)).setCells w6.heap.size 0 (rosL (v) (P) (G))) = w8 at *
        generalize w6.heap.size = t8 at *
        clear HR3c w6
        have hs := HS.out
        rcases hs with ⟨rfl, hs⟩ | ⟨n0, hn0, rfl, hpn, -, -, -⟩
        · have hno : ∀ n, n < 8 → P n ≠ p := by
            rcases hs with h | h | h
            · omega
            · rw [HM.out] at h; cases h
            · exact h
          clear hs
          have hff := HF.out
          rcases hff with ⟨rfl, hall⟩ | ⟨q, hq, rfl, hpq, hgq, -, -⟩
          · clear hall
            have HNO := Lib.hid hno
            clear hno
            set_option maxRecDepth 20000 in
            go_wp2_with (refine wpList_load_g (by rfl) 27 _ rfl t8 0 rfl _ _ HR8.out.range Try.underlying27 rfl (size_27 _ _ _) ?_)
            refine (may_v v P G _).mono ?_
            rintro e wA ⟨rfl, hbA⟩
            rw [HM.out]
            have HR3a := Lib.hid (HR3.out.block (hbA.block _ HR3.out.lt))
            have HR8a := Lib.hid (HR8.out.block (hbA.block _ HR8.out.lt))
            have HBa := Lib.hid (HB.out.trans (hbA.mono HB.out.size))
            clear HR3 HR8 HB hbA
            set_option maxRecDepth 20000 in go_wp2_with fail
            go_loopw [10] (fun i wr => ∃ k : Nat, k ≤ 8 ∧ i = .int .i64 k ∧ RosAt wr t3 v P G ∧ RosAt wr t8 v P G ∧ Below w.heap.size w wr) (fun i _ => 8 - (intOf i).toNat)
            case atStart => exact ⟨0, by omega, rfl, HR3a.out, HR8a.out, HBa.out⟩
            case round =>
              obtain ⟨k, hk, rfl, h3, h8, hB⟩ := hrel
              clear HR3a HR8a HBa
              have H3 := Lib.hid h3
              have H8 := Lib.hid h8
              have HBk := Lib.hid hB
              by_cases hkl : k < 8
              · have g3 := cell_regrown (h3.g k hkl)
                have g8 := cell_regrown (h8.g k hkl)
                have p3 := cell_regrown (h3.p k hkl)
                have p8 := cell_regrown (h8.p k hkl)
                have hgg : (G k != G k) = false := by simp
                have hkI : (k : Int) < 8 := by omega
                have hks : ((k : Int) != -1) = true := by rw [bne_iff_ne]; omega
                have hke : ((k : Int) == -1) = false := by rw [beq_eq_false_iff_ne]; omega
                clear h3 h8 hB
                set_option maxRecDepth 20000 in go_wp2_with fail
                refine wp_region_quiet_below (by kernel_rfl) (by kernel_rfl) ?_
                repeat (go_big_quiet_step (fail))
                refine wpQuiet_nil ?_
                intro w10 hw'
                obtain ⟨⟨nq, osq⟩, hw3⟩ := hw'
                have HW := Lib.hid (And.intro (H3.out.block ((below_regrown _ nq osq).block _ H3.out.lt)) (And.intro (H8.out.block ((below_regrown _ nq osq).block _ H8.out.lt)) (HBk.out.trans ((below_regrown _ nq osq).mono HBk.out.size))))
                rw [← hw3] at HW
                clear hw3 g3 g8 p3 p8 H3 H8 HBk
                set_option maxRecDepth 20000 in go_wp2_with fail
                all_goals first | exact ⟨⟨k + 1, by omega, by go_num, HW.out.1, HW.out.2.1, HW.out.2.2⟩, by simp [intOf]; omega⟩ | exact ⟨k + 1, by omega, by go_num, HW.out.1, HW.out.2.1, HW.out.2.2⟩ | (simp [intOf]; omega) | go_roundw
                all_goals first | exact ⟨k + 1, by omega, by go_num, HW.out.1, HW.out.2.1, HW.out.2.2⟩ | (simp [intOf]; omega)
              · obtain rfl : k = 8 := by omega
                have c3 := h3.c0
                have c8 := h8.c0
                have HKo : Hid (∀ w, Calls Try.prog 7 #[.agg (rosL v P G).toArray, .int .i64 p] w fun e w' => e = .returned (.int .i64 (-1)) ∧ Below w.heap.size w w') := Lib.hid (fun w => (of_v v p P G w).mono (by
                  rintro e w' ⟨⟨r, rfl, hr⟩, hb⟩
                  exact ⟨by rw [of_none hr HNO.out], hb⟩))
                clear h3 h8 hB
                set_option maxRecDepth 20000 in
                go_wp2_with (refine wpList_load_g (by rfl) 27 _ rfl t8 0 rfl _ _ H8.out.range Try.underlying27 rfl (size_27 _ _ _) ?_)
                refine (HKo.out _).mono ?_
                rintro e wC ⟨rfl, hbC⟩
                have h3c := H3.out.block (hbC.block _ H3.out.lt)
                have h8c := H8.out.block (hbC.block _ H8.out.lt)
                have hBc := HBk.out.trans (hbC.mono HBk.out.size)
                have c3' := h3c.c0
                have c8' := h8c.c0
                have HST := Lib.hid (run_store_ros h3c.there v P G)
                have hTS : TS w t3 (n + 1) (wC.setCells t3 0 (rosL v P G)) := ⟨v, P, G, rosAt_stored h3c.there v P G, HM.out, by omega, by omega, below_setCells t3 hlo _ 0 hBc⟩
                have HTS := Lib.hid hTS
                have H8c := Lib.hid h8c
                clear h3c h8c hBc hTS c3 c8 hbC
                set_option maxRecDepth 20000 in
                go_wp2_with (refine wpList_load_g (by rfl) 27 _ rfl t8 0 rfl _ _ H8c.out.range Try.underlying27 rfl (size_27 _ _ _) ?_)
                rw [HST.out]
                clear HST c3' c8' H8c
                generalize (wC.setCells t3 0 (rosL v P G)) = wD at *
                set_option maxRecDepth 20000 in go_wp2_with fail
                all_goals first | exact ⟨⟨n + 1, by omega, by omega, by go_num, HTS.out⟩, by simp [intOf]; omega⟩ | exact ⟨n + 1, by omega, by omega, by go_num, HTS.out⟩ | (simp [intOf]; omega) | go_roundw
                all_goals first | exact ⟨n + 1, by omega, by omega, by go_num, HTS.out⟩ | (simp [intOf]; omega)
          · have hg1 := turn_take HM.out (by omega) hp0 hp1 hq hpq hgq hno
            have hgm := take_may hg1
            have hgr := may_range HM.out q hq
            obtain ⟨P1, hP1⟩ : ∃ P1, P1 = updI P q p := ⟨_, rfl⟩
            obtain ⟨G1, hG1⟩ : ∃ G1, G1 = updI G q (G q + 1) := ⟨_, rfl⟩
            have HKg := Lib.hid (fun w => take_yes v p q P G hg1 w)
            rw [← hP1, ← hG1] at hgm HKg
            have hP1q : P1 q = p := by rw [hP1, updI_eq]
            have HPq := Lib.hid hP1q
            have HP1 := Lib.hid hP1
            have HG1 := Lib.hid hG1
            have HGM := Lib.hid hgm
            have HGR := Lib.hid hgr
            clear hg1 hgm hP1 hG1 hP1q hgr hno
            have hqI : ¬ (q : Int) < 0 := by omega
            set_option maxRecDepth 20000 in
            go_wp2_with (refine wpList_load_g (by rfl) 27 _ rfl t3 0 rfl _ _ HR3.out.range Try.underlying27 rfl (size_27 _ _ _) ?_)
            refine (HKg.out _).mono ?_
            rintro e wA ⟨rfl, hbA⟩
            unfold rosV
            have HR3a := HR3.out.block (hbA.block _ HR3.out.lt)
            have HR8a := HR8.out.block (hbA.block _ HR8.out.lt)
            have HBa := HB.out.trans (hbA.mono HB.out.size)
            have HST := Lib.hid (run_store_ros HR8a.there (v + 1) P1 G1)
            have hW := below_setCells t8 (Nat.le_refl _) (rosL (v + 1) P1 G1) 0 (Below.refl t8 wA)
            have HR3n := Lib.hid (HR3a.block (hW.block _ l3))
            have HR8n := Lib.hid (rosAt_stored HR8a.there (v + 1) P1 G1)
            have HBn := Lib.hid (HBa.trans (hW.mono (by omega)))
            clear HR3 HR8 HB HR3a HR8a HBa hW hbA
            set_option maxRecDepth 20000 in go_wp2_with fail
            rw [HST.out]
            clear HST
            generalize (wA.setCells t8 0 (rosL (v + 1) P1 G1)) = w9 at *
            clear wA
            set_option maxRecDepth 20000 in
            go_wp2_with (refine wpList_load_g (by rfl) 27 _ rfl t8 0 rfl _ _ HR8n.out.range Try.underlying27 rfl (size_27 _ _ _) ?_)
            refine (may_v (v + 1) P1 G1 _).mono ?_
            rintro e wA ⟨rfl, hbA⟩
            rw [HGM.out]
            have HR3a := Lib.hid (HR3n.out.block (hbA.block _ HR3n.out.lt))
            have HR8a := Lib.hid (HR8n.out.block (hbA.block _ HR8n.out.lt))
            have HBa := Lib.hid (HBn.out.trans (hbA.mono HBn.out.size))
            clear HR3n HR8n HBn hbA
            set_option maxRecDepth 20000 in go_wp2_with fail
            go_loopw [10] (fun i wr => ∃ k : Nat, k ≤ 8 ∧ i = .int .i64 k ∧ RosAt wr t3 v P G ∧ RosAt wr t8 (v + 1) P1 G1 ∧ Below w.heap.size w wr) (fun i _ => 8 - (intOf i).toNat)
            case atStart => exact ⟨0, by omega, rfl, HR3a.out, HR8a.out, HBa.out⟩
            case round =>
              obtain ⟨k, hk, rfl, h3, h8, hB⟩ := hrel
              clear HR3a HR8a HBa
              have H3 := Lib.hid h3
              have H8 := Lib.hid h8
              have HBk := Lib.hid hB
              by_cases hkl : k < 8
              · have g3 := cell_regrown (h3.g k hkl)
                have g8 := cell_regrown (h8.g k hkl)
                have p3 := cell_regrown (h3.p k hkl)
                have p8 := cell_regrown (h8.p k hkl)
                have hkI : (k : Int) < 8 := by omega
                have hks : ((k : Int) != -1) = true := by rw [bne_iff_ne]; omega
                clear h3 h8 hB
                by_cases hkn : k = q
                · subst hkn
                  have hke : ((k : Int) == (k : Int)) = true := by simp
                  rw [HG1.out, updI_eq] at g8
                  rw [HPq.out] at p8
                  have hw1 : wrap64 (G k + 1) = G k + 1 := by have := HGR.out; unfold wrap64; omega
                  have hg1 : (G k + 1 != G k) = true := by rw [bne_iff_ne]; omega
                  have hg2 : (G k + 1 != G k + 1) = false := by simp
                  set_option maxRecDepth 20000 in go_wp2_with fail
                  refine wp_region_quiet_below (by kernel_rfl) (by kernel_rfl) ?_
                  repeat (go_big_quiet_step (fail))
                  refine wpQuiet_nil ?_
                  intro w10 hw'
                  obtain ⟨⟨nq, osq⟩, hw3⟩ := hw'
                  have HW := Lib.hid (And.intro (H3.out.block ((below_regrown _ nq osq).block _ H3.out.lt)) (And.intro (H8.out.block ((below_regrown _ nq osq).block _ H8.out.lt)) (HBk.out.trans ((below_regrown _ nq osq).mono HBk.out.size))))
                  rw [← hw3] at HW
                  clear hw3 g3 g8 p3 p8 H3 H8 HBk
                  set_option maxRecDepth 20000 in go_wp2_with fail
                  all_goals first | exact ⟨⟨k + 1, by omega, by go_num, HW.out.1, HW.out.2.1, HW.out.2.2⟩, by simp [intOf]; omega⟩ | exact ⟨k + 1, by omega, by go_num, HW.out.1, HW.out.2.1, HW.out.2.2⟩ | (simp [intOf]; omega) | go_roundw
                  all_goals first | exact ⟨k + 1, by omega, by go_num, HW.out.1, HW.out.2.1, HW.out.2.2⟩ | (simp [intOf]; omega)
                · have hke : ((k : Int) == (q : Int)) = false := by rw [beq_eq_false_iff_ne]; omega
                  have hgg : (G k != G k) = false := by simp
                  rw [HG1.out, updI_ne _ _ hkn] at g8
                  rw [HP1.out, updI_ne _ _ hkn] at p8
                  set_option maxRecDepth 20000 in go_wp2_with fail
                  refine wp_region_quiet_below (by kernel_rfl) (by kernel_rfl) ?_
                  repeat (go_big_quiet_step (fail))
                  refine wpQuiet_nil ?_
                  intro w10 hw'
                  obtain ⟨⟨nq, osq⟩, hw3⟩ := hw'
                  have HW := Lib.hid (And.intro (H3.out.block ((below_regrown _ nq osq).block _ H3.out.lt)) (And.intro (H8.out.block ((below_regrown _ nq osq).block _ H8.out.lt)) (HBk.out.trans ((below_regrown _ nq osq).mono HBk.out.size))))
                  rw [← hw3] at HW
                  clear hw3 g3 g8 p3 p8 H3 H8 HBk
                  set_option maxRecDepth 20000 in go_wp2_with fail
                  all_goals first | exact ⟨⟨k + 1, by omega, by go_num, HW.out.1, HW.out.2.1, HW.out.2.2⟩, by simp [intOf]; omega⟩ | exact ⟨k + 1, by omega, by go_num, HW.out.1, HW.out.2.1, HW.out.2.2⟩ | (simp [intOf]; omega) | go_roundw
                  all_goals first | exact ⟨k + 1, by omega, by go_num, HW.out.1, HW.out.2.1, HW.out.2.2⟩ | (simp [intOf]; omega)
              · obtain rfl : k = 8 := by omega
                have c3 := h3.c0
                have c8 := h8.c0
                have hw1 : wrap64 (v + 1) = v + 1 := by unfold wrap64; omega
                have HKo : Hid (∀ w, Calls Try.prog 7 #[.agg (rosL (v + 1) P1 G1).toArray, .int .i64 p] w fun e w' => e = .returned (.int .i64 q) ∧ Below w.heap.size w w') := Lib.hid (fun w => (of_v (v + 1) p P1 G1 w).mono (by
                  rintro e w' ⟨⟨r, rfl, hr⟩, hb⟩
                  exact ⟨by rw [of_some hr HGM.out hp0 hq HPq.out], hb⟩))
                clear h3 h8 hB
                set_option maxRecDepth 20000 in
                go_wp2_with (refine wpList_load_g (by rfl) 27 _ rfl t8 0 rfl _ _ H8.out.range Try.underlying27 rfl (size_27 _ _ _) ?_)
                refine (HKo.out _).mono ?_
                rintro e wC ⟨rfl, hbC⟩
                have h3c := H3.out.block (hbC.block _ H3.out.lt)
                have h8c := H8.out.block (hbC.block _ H8.out.lt)
                have hBc := HBk.out.trans (hbC.mono HBk.out.size)
                have c3' := h3c.c0
                have c8' := h8c.c0
                have HST := Lib.hid (run_store_ros h3c.there (v + 1) P1 G1)
                have hTS : TS w t3 (n + 1) (wC.setCells t3 0 (rosL (v + 1) P1 G1)) := ⟨v + 1, P1, G1, rosAt_stored h3c.there (v + 1) P1 G1, HGM.out, by omega, by omega, below_setCells t3 hlo _ 0 hBc⟩
                have HTS := Lib.hid hTS
                have H8c := Lib.hid h8c
                clear h3c h8c hBc hTS c3 c8 hbC
                set_option maxRecDepth 20000 in
                go_wp2_with (refine wpList_load_g (by rfl) 27 _ rfl t8 0 rfl _ _ H8c.out.range Try.underlying27 rfl (size_27 _ _ _) ?_)
                rw [HST.out]
                clear HST c3' c8' H8c
                generalize (wC.setCells t3 0 (rosL (v + 1) P1 G1)) = wD at *
                set_option maxRecDepth 20000 in go_wp2_with fail
                all_goals first | exact ⟨⟨n + 1, by omega, by omega, by go_num, HTS.out⟩, by simp [intOf]; omega⟩ | exact ⟨n + 1, by omega, by omega, by go_num, HTS.out⟩ | (simp [intOf]; omega) | go_roundw
                all_goals first | exact ⟨n + 1, by omega, by omega, by go_num, HTS.out⟩ | (simp [intOf]; omega)
        · obtain ⟨hg1, hg2⟩ := turn_give HM.out (by omega) hp0 hn0 hpn
          have hgm := give_may hg1
          obtain ⟨P1, hP1⟩ : ∃ P1, P1 = updI P n0 (-1) := ⟨_, rfl⟩
          have HKg := Lib.hid (fun w => give_yes v n0 P G hn0 hg1 w)
          rw [← hP1] at hg2 hgm HKg
          have HP1 := Lib.hid hP1
          have HG2 := Lib.hid hg2
          have HGM := Lib.hid hgm
          clear hg1 hg2 hgm hP1
          have hn0I : ¬ (n0 : Int) < 0 := by omega
          set_option maxRecDepth 20000 in
          go_wp2_with (refine wpList_load_g (by rfl) 27 _ rfl t3 0 rfl _ _ HR3.out.range Try.underlying27 rfl (size_27 _ _ _) ?_)
          refine (HKg.out _).mono ?_
          rintro e wA ⟨rfl, hbA⟩
          unfold rosV
          have HR3a := HR3.out.block (hbA.block _ HR3.out.lt)
          have HR8a := HR8.out.block (hbA.block _ HR8.out.lt)
          have HBa := HB.out.trans (hbA.mono HB.out.size)
          have HST := Lib.hid (run_store_ros HR8a.there (v + 1) P1 G)
          have hW := below_setCells t8 (Nat.le_refl _) (rosL (v + 1) P1 G) 0 (Below.refl t8 wA)
          have HR3n := Lib.hid (HR3a.block (hW.block _ l3))
          have HR8n := Lib.hid (rosAt_stored HR8a.there (v + 1) P1 G)
          have HBn := Lib.hid (HBa.trans (hW.mono (by omega)))
          clear HR3 HR8 HB HR3a HR8a HBa hW hbA
          set_option maxRecDepth 20000 in go_wp2_with fail
          rw [HST.out]
          clear HST
          generalize (wA.setCells t8 0 (rosL (v + 1) P1 G)) = w9 at *
          clear wA
          set_option maxRecDepth 20000 in
          go_wp2_with (refine wpList_load_g (by rfl) 27 _ rfl t8 0 rfl _ _ HR8n.out.range Try.underlying27 rfl (size_27 _ _ _) ?_)
          refine (may_v (v + 1) P1 G _).mono ?_
          rintro e wA ⟨rfl, hbA⟩
          rw [HGM.out]
          have HR3a := Lib.hid (HR3n.out.block (hbA.block _ HR3n.out.lt))
          have HR8a := Lib.hid (HR8n.out.block (hbA.block _ HR8n.out.lt))
          have HBa := Lib.hid (HBn.out.trans (hbA.mono HBn.out.size))
          clear HR3n HR8n HBn hbA
          set_option maxRecDepth 20000 in go_wp2_with fail
          go_loopw [10] (fun i wr => ∃ k : Nat, k ≤ 8 ∧ i = .int .i64 k ∧ RosAt wr t3 v P G ∧ RosAt wr t8 (v + 1) P1 G ∧ Below w.heap.size w wr) (fun i _ => 8 - (intOf i).toNat)
          case atStart => exact ⟨0, by omega, rfl, HR3a.out, HR8a.out, HBa.out⟩
          case round =>
            obtain ⟨k, hk, rfl, h3, h8, hB⟩ := hrel
            clear HR3a HR8a HBa
            have H3 := Lib.hid h3
            have H8 := Lib.hid h8
            have HBk := Lib.hid hB
            by_cases hkl : k < 8
            · have g3 := cell_regrown (h3.g k hkl)
              have g8 := cell_regrown (h8.g k hkl)
              have p3 := cell_regrown (h3.p k hkl)
              have p8 := cell_regrown (h8.p k hkl)
              have hgg : (G k != G k) = false := by simp
              have hkI : (k : Int) < 8 := by omega
              clear h3 h8 hB
              by_cases hkn : k = n0
              · subst hkn
                have hke : ((k : Int) != (k : Int)) = false := by simp
                set_option maxRecDepth 20000 in go_wp2_with fail
                refine wp_region_quiet_below (by kernel_rfl) (by kernel_rfl) ?_
                repeat (go_big_quiet_step (fail))
                refine wpQuiet_nil ?_
                intro w10 hw'
                obtain ⟨⟨nq, osq⟩, hw3⟩ := hw'
                have HW := Lib.hid (And.intro (H3.out.block ((below_regrown _ nq osq).block _ H3.out.lt)) (And.intro (H8.out.block ((below_regrown _ nq osq).block _ H8.out.lt)) (HBk.out.trans ((below_regrown _ nq osq).mono HBk.out.size))))
                rw [← hw3] at HW
                clear hw3 g3 g8 p3 p8 H3 H8 HBk
                set_option maxRecDepth 20000 in go_wp2_with fail
                all_goals first | exact ⟨⟨k + 1, by omega, by go_num, HW.out.1, HW.out.2.1, HW.out.2.2⟩, by simp [intOf]; omega⟩ | exact ⟨k + 1, by omega, by go_num, HW.out.1, HW.out.2.1, HW.out.2.2⟩ | (simp [intOf]; omega) | go_roundw
                all_goals first | exact ⟨k + 1, by omega, by go_num, HW.out.1, HW.out.2.1, HW.out.2.2⟩ | (simp [intOf]; omega)
              · have hke : ((k : Int) != (n0 : Int)) = true := by rw [bne_iff_ne]; omega
                rw [HP1.out, updI_ne _ _ hkn] at p8
                set_option maxRecDepth 20000 in go_wp2_with fail
                refine wp_region_quiet_below (by kernel_rfl) (by kernel_rfl) ?_
                repeat (go_big_quiet_step (fail))
                refine wpQuiet_nil ?_
                intro w10 hw'
                obtain ⟨⟨nq, osq⟩, hw3⟩ := hw'
                have HW := Lib.hid (And.intro (H3.out.block ((below_regrown _ nq osq).block _ H3.out.lt)) (And.intro (H8.out.block ((below_regrown _ nq osq).block _ H8.out.lt)) (HBk.out.trans ((below_regrown _ nq osq).mono HBk.out.size))))
                rw [← hw3] at HW
                clear hw3 g3 g8 p3 p8 H3 H8 HBk
                set_option maxRecDepth 20000 in go_wp2_with fail
                all_goals first | exact ⟨⟨k + 1, by omega, by go_num, HW.out.1, HW.out.2.1, HW.out.2.2⟩, by simp [intOf]; omega⟩ | exact ⟨k + 1, by omega, by go_num, HW.out.1, HW.out.2.1, HW.out.2.2⟩ | (simp [intOf]; omega) | go_roundw
                all_goals first | exact ⟨k + 1, by omega, by go_num, HW.out.1, HW.out.2.1, HW.out.2.2⟩ | (simp [intOf]; omega)
            · obtain rfl : k = 8 := by omega
              have c3 := h3.c0
              have c8 := h8.c0
              have hw1 : wrap64 (v + 1) = v + 1 := by unfold wrap64; omega
              have HKo : Hid (∀ w, Calls Try.prog 7 #[.agg (rosL (v + 1) P1 G).toArray, .int .i64 p] w fun e w' => e = .returned (.int .i64 (-1)) ∧ Below w.heap.size w w') := Lib.hid (fun w => (of_v (v + 1) p P1 G w).mono (by
                rintro e w' ⟨⟨r, rfl, hr⟩, hb⟩
                exact ⟨by rw [of_none hr HG2.out], hb⟩))
              clear h3 h8 hB
              set_option maxRecDepth 20000 in
              go_wp2_with (refine wpList_load_g (by rfl) 27 _ rfl t8 0 rfl _ _ H8.out.range Try.underlying27 rfl (size_27 _ _ _) ?_)
              refine (HKo.out _).mono ?_
              rintro e wC ⟨rfl, hbC⟩
              have h3c := H3.out.block (hbC.block _ H3.out.lt)
              have h8c := H8.out.block (hbC.block _ H8.out.lt)
              have hBc := HBk.out.trans (hbC.mono HBk.out.size)
              have c3' := h3c.c0
              have c8' := h8c.c0
              have HST := Lib.hid (run_store_ros h3c.there (v + 1) P1 G)
              have hTS : TS w t3 (n + 1) (wC.setCells t3 0 (rosL (v + 1) P1 G)) := ⟨v + 1, P1, G, rosAt_stored h3c.there (v + 1) P1 G, HGM.out, by omega, by omega, below_setCells t3 hlo _ 0 hBc⟩
              have HTS := Lib.hid hTS
              have H8c := Lib.hid h8c
              clear h3c h8c hBc hTS c3 c8 hbC
              set_option maxRecDepth 20000 in
              go_wp2_with (refine wpList_load_g (by rfl) 27 _ rfl t8 0 rfl _ _ H8c.out.range Try.underlying27 rfl (size_27 _ _ _) ?_)
              rw [HST.out]
              clear HST c3' c8' H8c
              generalize (wC.setCells t3 0 (rosL (v + 1) P1 G)) = wD at *
              set_option maxRecDepth 20000 in go_wp2_with fail
              all_goals first | exact ⟨⟨n + 1, by omega, by omega, by go_num, HTS.out⟩, by simp [intOf]; omega⟩ | exact ⟨n + 1, by omega, by omega, by go_num, HTS.out⟩ | (simp [intOf]; omega) | go_roundw
              all_goals first | exact ⟨n + 1, by omega, by omega, by go_num, HTS.out⟩ | (simp [intOf]; omega)
      · have e60 : n = 60 := by omega
        subst e60
        clear hB
        set_option maxRecDepth 20000 in go_wp2_with fail
        refine (told_law _).mono ?_
        rintro e wT ⟨rfl, hbA⟩
        have HBt := Lib.hid (HB.out.trans (hbA.mono HB.out.size))
        clear hbA
        set_option maxRecDepth 20000 in go_wp2_with fail
        go_ret
        exact ⟨rfl, HBt.out⟩
    · have el : n = len0 := by omega
      subst el
      clear hB
      set_option maxRecDepth 20000 in go_wp2_with fail
      refine (told_law _).mono ?_
      rintro e wT ⟨rfl, hbA⟩
      have HBt := Lib.hid (HB.out.trans (hbA.mono HB.out.size))
      clear hbA
      set_option maxRecDepth 20000 in go_wp2_with fail
      go_ret
      exact ⟨rfl, HBt.out⟩
end Go.Proofs.Ythjabcogbjdkiaa
