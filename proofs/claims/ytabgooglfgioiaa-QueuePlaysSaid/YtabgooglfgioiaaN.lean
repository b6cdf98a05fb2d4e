/-
  Queue: the Go text of QueueDone returns true for every input.
-/
import Derived.Test.YtabgooglfgioiaaM
namespace Go.Proofs.Ytabgooglfgioiaa
set_option linter.unusedVariables false
open Go.ChangeShapes Go.WideShapes Go.ChangeAt Go.RowKit

/-- n inputs in memory. -/
structure InsAt (w : World) (b n : Nat) (X Y Z : Nat → Int) : Prop where
  x : ∀ k, k < n → w.cell? ⟨b, k * 3, none⟩ = some (.int .i8 (X k))
  y : ∀ k, k < n → w.cell? ⟨b, k * 3 + 1, none⟩ = some (.int .i8 (Y k))
  z : ∀ k, k < n → w.cell? ⟨b, k * 3 + 2, none⟩ = some (.int .u8 (Z k))
  f : ∀ k, k < n * 3 → w.frozen? ⟨b, k, none⟩ = false
theorem InsAt.block {w w' : World} {b n : Nat} {X Y Z : Nat → Int} (h : InsAt w b n X Y Z) (e : w'.heap[b]? = w.heap[b]?) : InsAt w' b n X Y Z :=
  ⟨fun k hk => (World.cell?_of_block (a := ⟨b, _, none⟩) e).trans (h.x k hk), fun k hk => (World.cell?_of_block (a := ⟨b, _, none⟩) e).trans (h.y k hk), fun k hk => (World.cell?_of_block (a := ⟨b, _, none⟩) e).trans (h.z k hk), fun k hk => (World.frozen?_of_block (a := ⟨b, _, none⟩) e).trans (h.f k hk)⟩
def updI (X : Nat → Int) (k : Nat) (v : Int) : Nat → Int := fun j => if j = k then v else X j
theorem InsAt.set {w : World} {b n : Nat} {X Y Z : Nat → Int} (h : InsAt w b n X Y Z) (k : Nat) (hk : k < n) (x y z : Int) :
    InsAt (((w.setCell ⟨b, k * 3, none⟩ (.int .i8 x)).setCell ⟨b, k * 3 + 1, none⟩ (.int .i8 y)).setCell ⟨b, k * 3 + 2, none⟩ (.int .u8 z)) b n (updI X k x) (updI Y k y) (updI Z k z) := by
  have hx := h.x k hk
  have hy := h.y k hk
  have hz := h.z k hk
  refine ⟨fun j hj => ?_, fun j hj => ?_, fun j hj => ?_, fun j hj => ?_⟩
  · rw [World.cell?_setCell_other _ _ _ _ (by simp <;> omega), World.cell?_setCell_other _ _ _ _ (by simp <;> omega)]
    by_cases e : j = k
    · subst e; simp only [updI, if_pos]; exact World.cell?_setCell_same _ _ _ hx
    · rw [World.cell?_setCell_other _ _ _ _ (by simp <;> omega)]; simp only [updI, if_neg e]; exact h.x j hj
  · rw [World.cell?_setCell_other _ _ _ _ (by simp <;> omega)]
    by_cases e : j = k
    · subst e; simp only [updI, if_pos]
      exact World.cell?_setCell_same _ _ _ ((World.cell?_setCell_other _ _ _ _ (by simp)).trans hy)
    · rw [World.cell?_setCell_other _ _ _ _ (by simp <;> omega), World.cell?_setCell_other _ _ _ _ (by simp <;> omega)]; simp only [updI, if_neg e]; exact h.y j hj
  · by_cases e : j = k
    · subst e; simp only [updI, if_pos]
      exact World.cell?_setCell_same _ _ _ ((World.cell?_setCell_other _ _ _ _ (by simp)).trans ((World.cell?_setCell_other _ _ _ _ (by simp)).trans hz))
    · rw [World.cell?_setCell_other _ _ _ _ (by simp <;> omega), World.cell?_setCell_other _ _ _ _ (by simp <;> omega), World.cell?_setCell_other _ _ _ _ (by simp <;> omega)]; simp only [updI, if_neg e]; exact h.z j hj
  · rw [World.frozen?_setCell, World.frozen?_setCell, World.frozen?_setCell]; exact h.f j hj
def zeros (n : Nat) : Array Value := ((List.range n).map fun k => if k % 3 = 2 then Value.int .u8 0 else Value.int .i8 0).toArray
theorem zeros_at (n k : Nat) (h : k < n) : (zeros n)[k]? = some (if k % 3 = 2 then Value.int .u8 0 else Value.int .i8 0) := by
  unfold zeros
  rw [List.getElem?_toArray, List.getElem?_map, List.getElem?_range h]; rfl
theorem insAt_new (w : World) (n : Nat) (T : TypeId) : InsAt (w.alloc (.cells (zeros (n * 3)) T)) w.heap.size n (fun _ => 0) (fun _ => 0) (fun _ => 0) := by
  refine ⟨fun k hk => ?_, fun k hk => ?_, fun k hk => ?_, fun k hk => ?_⟩
  · rw [World.cell?_alloc_new, zeros_at _ _ (by omega), if_neg (by omega)]
  · rw [World.cell?_alloc_new, zeros_at _ _ (by omega), if_neg (by omega)]
  · rw [World.cell?_alloc_new, zeros_at _ _ (by omega), if_pos (by omega)]
  · rw [World.frozen?_alloc_new]
theorem InsAt.lt {w : World} {b n : Nat} {X Y Z : Nat → Int} (h : InsAt w b n X Y Z) (hn : 0 < n) : b < w.heap.size := cell_lt (h.x 0 hn)

def del (g : Int → Option Value) (m : Nat) : Int → Option Value := fun k => if k < m then none else g k
theorem del_zero {g : Int → Option Value} (h : Near g 0) : del g 0 = g := by
  funext k
  unfold del
  split
  · rename_i hk
    cases e : g k with
    | none => rfl
    | some v => have := h k (by rw [e]; rfl); omega
  · rfl
theorem del_succ (g : Int → Option Value) (m : Nat) : updM (del g m) (m : Int) none = del g (m + 1) := by
  funext k
  unfold updM del
  by_cases e : k = m
  · subst e; rw [if_pos rfl, if_pos (by omega)]
  · rw [if_neg e]
    by_cases h : k < m
    · rw [if_pos h, if_pos (by omega)]
    · rw [if_neg h, if_neg (by omega)]
theorem near_del {g : Int → Option Value} (h : Near g 0) (m : Nat) : Near (del g m) m := by
  intro k hk
  unfold del at hk
  split at hk
  · cases hk
  · have := h k hk; omega
theorem del_at {g : Int → Option Value} {m : Nat} {k : Int} (h : (m : Int) ≤ k) : del g m k = g k := by
  unfold del; rw [if_neg (by omega)]
def D3 (s b M n : Nat) (g : Int → Option Value) (c : Nat → Bool) (X Y Z : Nat → Int) (C1 C2 : Nat) (ix iy iz : Int) (w : World) (m : Nat) (wr : World) : Prop :=
  ∃ p q r, QAt wr b M n (m : Int) p q r (del g m) ∧ (0 < m → p = ix ∧ q = iy ∧ r = iz) ∧ InAt wr (s + 1) ix iy iz ∧ BoolsAt wr C2 0 64 c ∧ InsAt wr C1 64 X Y Z ∧ Below s w wr
def D4 (s b M n : Nat) (k : Nat) (g : Int → Option Value) (p q r : Int) (c : Nat → Bool) (X Y Z : Nat → Int) (C1 C2 : Nat) (ix iy iz : Int) (w : World) (wr : World) : Prop :=
  QAt wr b M n (k : Int) p q r (del g k) ∧ InAt wr (s + 1) ix iy iz ∧ BoolsAt wr C2 0 64 c ∧ InsAt wr C1 64 X Y Z ∧ Below s w wr
theorem D4.below {s b M n k : Nat} {g : Int → Option Value} {p q r : Int} {c : Nat → Bool} {X Y Z : Nat → Int} {C1 C2 : Nat} {ix iy iz : Int} {w wr w' : World} (h : D4 s b M n k g p q r c X Y Z C1 C2 ix iy iz w wr) (hA : Below wr.heap.size wr w') : D4 s b M n k g p q r c X Y Z C1 C2 ix iy iz w w' := by
  obtain ⟨hq, hI, hbo, hin, hB⟩ := h
  have := hI.lt
  exact ⟨hq.below hA, hI.below hA, hbo.block (hA.block _ (hbo.lt (by omega))), hin.block (hA.block _ (hin.lt (by omega))), hB.trans (hA.mono (by omega))⟩

theorem zero42 (w : World) : (zeroValue 42).run Try.prog w = .ok (.agg (zeros 192)) w := by kernel_rfl
theorem zero37 (w : World) : (zeroValue 37).run Try.prog w = .ok (.agg (falses 64)) w := by kernel_rfl

def D1 (s b M : Nat) (x y z ix iy iz : Int) (w : World) (i : Nat) (wr : World) : Prop :=
  ∃ g n, n ≤ i ∧ QAt wr b M n 0 x y z g ∧ Near g 0 ∧ InAt wr (s + 1) ix iy iz ∧ Below s w wr
def D2 (s b M n : Nat) (g : Int → Option Value) (C1 C2 : Nat) (x y z ix iy iz : Int) (w : World) (i : Nat) (wr : World) : Prop :=
  ∃ c X Y Z, QAt wr b M n 0 x y z g ∧ InAt wr (s + 1) ix iy iz ∧ BoolsAt wr C2 0 64 c ∧ InsAt wr C1 64 X Y Z ∧ (∀ j : Nat, j < i → c j = (g j).isSome ∧ ∀ v, g j = some v → v = inV (X j) (Y j) (Z j)) ∧ Below s w wr

set_option maxRecDepth 100000 in
set_option maxHeartbeats 8000000 in
theorem law_QueueDone (v0 v1 : Value) (a2 : Int) (v3 : Value) (w : World) (w0 : IsIn w v0) (w1 : IsOps w v1) (w2 : (Lit.int .i64 a2).wf = true) (w3 : IsIn w v3) :
    Calls Try.prog 6 #[v0, v1, .int .i64 a2, v3] w fun e w' => e = .returned (.bool true) ∧ Below w.heap.size w w' := by
  obtain ⟨x, y, z, rfl, hx, hy, hz⟩ := w0
  obtain ⟨ix, iy, iz, rfl, hix, hiy, hiz⟩ := w3
  obtain ⟨a1, len, cap, rfl, hl1, hl2, hel⟩ := w1
  unfold maxLen at hl2
  have Hel := Lib.hid hel
  clear hel w2
  obtain ⟨s, hs⟩ : ∃ s, w.heap.size = s := ⟨_, rfl⟩
  have HS := Lib.hid hs
  go_enter Try.func6, Try.ntmps6
  go_wp2_with fail
  have hA : Below w.heap.size w ((w.alloc (Obj.cells #[.int .i8 x, .int .i8 y, .int .u8 z] 24)).alloc (Obj.cells #[.int .i8 ix, .int .i8 iy, .int .u8 iz] 24)) := ((Below.refl _ _).alloc (Nat.le_refl _) _).alloc (by simp) _
  have hI : InAt ((w.alloc (Obj.cells #[.int .i8 x, .int .i8 y, .int .u8 z] 24)).alloc (Obj.cells #[.int .i8 ix, .int .i8 iy, .int .u8 iz] 24)) (w.heap.size + 1) ix iy iz := by
    have := inAt_new (w.alloc (Obj.cells #[.int .i8 x, .int .i8 y, .int .u8 z] 24)) ix iy iz
    rwa [size_alloc] at this
  have hz0 : ((w.alloc (Obj.cells #[.int .i8 x, .int .i8 y, .int .u8 z] 24)).alloc (Obj.cells #[.int .i8 ix, .int .i8 iy, .int .u8 iz] 24)).heap.size = w.heap.size + 2 := by simp
  generalize (w.alloc (Obj.cells #[.int .i8 x, .int .i8 y, .int .u8 z] 24)).alloc (Obj.cells #[.int .i8 ix, .int .i8 iy, .int .u8 iz] 24) = w0 at hI hA hz0 ⊢
  rw [hs] at hI hA hz0
  refine (new_any 0 x y z _).mono ?_
  rintro e w1 ⟨b, M, rfl, hq1, hb, hM, hB1⟩
  have hI1 := hI.below hB1
  have hB2 := hA.trans (hB1.mono (by omega))
  rw [hz0] at hb hM hB1
  have HI1 := Lib.hid hI1
  have HB2 := Lib.hid hB2
  have HQ1 := Lib.hid hq1
  have hne := hq1.ne
  clear hs hI hA hB1 hI1 hB2 hq1 hz0
  by_cases hlen : (40 : Int) < (len : Int)
  · go_wp2_with fail
    refine (told_law _).mono ?_
    rintro e w6 ⟨rfl, hA⟩
    go_wp2_with fail
    go_ret
    exact ⟨rfl, by rw [HS.out]; exact HB2.out.trans (hA.mono (by have := HB2.out.size; have := HS.out; omega))⟩
  · go_wp2_with fail
    go_loopw [10] (fun s8 wr => ∃ i : Nat, i ≤ len ∧ s8 = .int .i64 i ∧ D1 s b M x y z ix iy iz w i wr) (fun s8 _ => len - (intOf s8).toNat)
    case atStart => exact ⟨0, by omega, rfl, _, 0, by omega, HQ1.out, (fun k hk => by cases hk), HI1.out, HB2.out⟩
    case round =>
      clear HQ1 HI1 HB2
      obtain ⟨i, hi, rfl, g, n, hn, hq, hnr, hI, hB⟩ := hrel
      by_cases hlt : i < len
      · obtain ⟨lb, lo, rfl, hbl, hcell⟩ := Hel.out (by omega)
        obtain ⟨ok, fr, p, q, r, k0, k1, k2, k3, k4, r0, r1, r2, r3, r4⟩ := hcell i hlt
        rw [HS.out] at hbl
        have kb : ∀ o, wr.cell? ⟨lb, o, none⟩ = w.cell? ⟨lb, o, none⟩ := fun o => (hB.cell (p := ⟨lb, o, none⟩) (by exact hbl))
        rw [← kb] at k0 k1 k2 k3 k4
        clear hcell k0 kb
        obtain ⟨m, hm⟩ : ∃ m : Nat, (m : Int) = IntKind.u64.wrap fr % 64 := ⟨(IntKind.u64.wrap fr % 64).toNat, by have := bits64 fr; omega⟩
        have hm1 : m < 64 := by have := bits64 fr; omega
        have hfr0 := bits64 fr
        have hi0 : (0 : Int) ≤ i := by omega
        have hil : (i : Int) < len := by omega
        have hss := hB.size
        have hi2 := hI.lt
        have hput : Calls Try.prog 10 #[.pointer (some ⟨b, 0, none⟩), .int .i64 (m : Int), .agg #[.int .i8 p, .int .i8 q, .int .u8 r]] wr.drew fun e w' => (∃ bb, e = .returned (.bool bb)) ∧ D1 s b M x y z ix iy iz w (i + 1) w' := by
          by_cases hmay : (decide (-127 ≤ p) && decide (-127 ≤ q)) = true
          · have hmay' : -127 ≤ p ∧ -127 ≤ q := by simpa using hmay
            refine (put_near b M n 0 x y z g (m : Int) p q r wr.drew hq.drew hmay' (by omega) (by omega) (by omega) (by omega) (by omega)).mono ?_
            rintro e w4 ⟨rfl, hq4, k4⟩
            have k5 := (Kept.refl (fun k => k = M) wr).drew.trans k4
            exact ⟨⟨_, rfl⟩, _, n + 1, by omega, hq4, hnr.put (by omega) (by omega) _, hI.kept k5 (by omega), hB.trans (k5.below (B := s) (fun k hk => by omega) (by omega))⟩
          · have hmay' : (decide (-127 ≤ p) && decide (-127 ≤ q)) = false := by simpa using hmay
            refine (put_may b M n 0 x y z g (m : Int) p q r wr.drew hq.drew hmay').mono ?_
            rintro e w4 ⟨rfl, hq4, k4⟩
            have k5 := (Kept.refl (fun k => k = M) wr).drew.trans k4
            exact ⟨⟨_, rfl⟩, _, n + 1, by omega, hq4, hnr, hI.kept k5 (by omega), hB.trans (k5.below (B := s) (fun k hk => by omega) (by omega))⟩
        rw [hm] at hput
        have HP := Lib.hid hput
        clear hput hm hq hnr hI hB
        go_wp2_with fail
        refine region_tail 14 (by kernel_rfl) (by kernel_rfl) ?_
        simp only [List.take_succ_cons, List.take_zero, List.drop_succ_cons, List.drop_zero]
        repeat still_step
        refine wpStill_nil ?_
        go_wp2_with fail
        refine HP.out.mono ?_
        rintro e w3 ⟨⟨bb, rfl⟩, h3⟩
        have H3 := Lib.hid h3
        clear h3
        go_wp2_with fail
        go_roundw
        case rel => exact ⟨i + 1, by omega, by go_num, H3.out⟩
        case measure => simp [intOf]; omega
      · have hz42 := zero42
        have hz37 := zero37
        have hss := hB.size
        have hbs := cell_lt hq.c0
        have hMs := hq.map.lt
        have hq2 := (hq.below (below_alloc wr (.cells (zeros 192) 42))).below (below_alloc _ (.cells (falses 64) 37))
        have hI2 := (hI.below (below_alloc wr (.cells (zeros 192) 42))).below (below_alloc _ (.cells (falses 64) 37))
        have hB2 := hB.trans (((below_alloc wr (.cells (zeros 192) 42)).trans ((below_alloc _ (.cells (falses 64) 37)).mono (by simp))).mono (B' := s) (by have := HS.out; omega))
        have hX : InsAt ((wr.alloc (.cells (zeros 192) 42)).alloc (.cells (falses 64) 37)) wr.heap.size 64 (fun _ => 0) (fun _ => 0) (fun _ => 0) :=
          (insAt_new wr 64 42).block (Below.heap_alloc _ _ _ (by simp))
        have hY : BoolsAt ((wr.alloc (.cells (zeros 192) 42)).alloc (.cells (falses 64) 37)) (wr.heap.size + 1) 0 64 (fun _ => false) := by
          have := boolsAt_new (wr.alloc (.cells (zeros 192) 42)) (falses 64) 37 64 (falses_at 64)
          rwa [size_alloc] at this
        have hD : D2 s b M n g wr.heap.size (wr.heap.size + 1) x y z ix iy iz w 0 ((wr.alloc (.cells (zeros 192) 42)).alloc (.cells (falses 64) 37)) :=
          ⟨_, _, _, _, hq2, hI2, hY, hX, fun j hj => by omega, hB2⟩
        have HD := Lib.hid hD
        have HV := Lib.hid hq.vals
        have HN := Lib.hid hnr
        obtain ⟨C, hC⟩ : ∃ C, wr.heap.size = C := ⟨_, rfl⟩
        rw [hC] at HD hss hbs hMs
        clear hD hX hY hB2 hI2 hq2 hq hI hB hnr
        go_wp2_with fail
        clear hz42 hz37 hC
        generalize (wr.alloc (.cells (zeros 192) 42)).alloc (.cells (falses 64) 37) = w2 at HD ⊢
        go_loopw [13] (fun s8 wr => ∃ i : Nat, i ≤ 64 ∧ s8 = .int .i64 i ∧ D2 s b M n g C (C + 1) x y z ix iy iz w i wr) (fun s8 _ => 64 - (intOf s8).toNat)
        case atStart => exact ⟨0, by omega, rfl, HD.out⟩
        case round =>
          clear HD
          obtain ⟨i2, hi2, rfl, c, X, Y, Z, hq, hI, hbo, hin, hcg, hB⟩ := hrel
          by_cases hlt2 : i2 < 64
          · obtain ⟨p, q, r, hV⟩ : ∃ p q r, atV g 0 (inV x y z) (i2 : Int) = inV p q r := back_in (fun j v hv => HV.out _ v hv) _ x y z
            obtain ⟨is, his⟩ : ∃ is, (g (i2 : Int)).isSome = is := ⟨_, rfl⟩
            have hvv : ∀ v, g (i2 : Int) = some v → v = inV p q r := fun v hv => by rw [← hV, atV_some HN.out hv]
            have HVV := Lib.hid hvv
            have HQ := Lib.hid hq
            have HI := Lib.hid hI
            have HBO := Lib.hid hbo
            have HIN := Lib.hid hin
            have HCG := Lib.hid hcg
            have HB := Lib.hid hB
            have HIS := Lib.hid his
            have HV2 := Lib.hid hV
            have hls := hI.lt
            clear hvv hq hI hbo hin hcg hB his hV
            go_wp2_with fail
            refine (at_any b M n 0 x y z g (i2 : Int) _ HQ.out HN.out (by omega) (by omega) (by omega) (by omega) (inV p q r) is HV2.out HIS.out).mono ?_
            unfold inV
            rintro e w3 ⟨rfl, hA⟩
            have hx3 := (HIN.out.block (hA.block C (HIN.out.lt (by omega))))
            have hb3 := (HBO.out.block (hA.block (C + 1) (HBO.out.lt (by omega))))
            have x0 := hx3.x i2 hlt2
            have x1 := hx3.y i2 hlt2
            have x2 := hx3.z i2 hlt2
            have f0 := hx3.f (i2 * 3) (by omega)
            have f1 := hx3.f (i2 * 3 + 1) (by omega)
            have f2 := hx3.f (i2 * 3 + 2) (by omega)
            have y0 := hb3.cell i2 hlt2
            have y1 := hb3.frozen i2 hlt2
            rw [Nat.zero_add] at y0 y1
            have hD3 : D2 s b M n g C (C + 1) x y z ix iy iz w (i2 + 1) ((((w3.setCell ⟨C, i2 * 3, none⟩ (.int .i8 p)).setCell ⟨C, i2 * 3 + 1, none⟩ (.int .i8 q)).setCell ⟨C, i2 * 3 + 2, none⟩ (.int .u8 r)).setCell ⟨C + 1, i2, none⟩ (.bool is)) := by
              have hk : Kept (fun k => k = C ∨ k = C + 1) w3 ((((w3.setCell ⟨C, i2 * 3, none⟩ (.int .i8 p)).setCell ⟨C, i2 * 3 + 1, none⟩ (.int .i8 q)).setCell ⟨C, i2 * 3 + 2, none⟩ (.int .u8 r)).setCell ⟨C + 1, i2, none⟩ (.bool is)) :=
                ((((Kept.refl _ _).setCell (Or.inl (Or.inl rfl)) _).setCell (Or.inl (Or.inl rfl)) _).setCell (Or.inl (Or.inl rfl)) _).setCell (Or.inl (Or.inr rfl)) _
              have hx4 := hx3.set i2 hlt2 p q r
              have hb4 : BoolsAt (((w3.setCell ⟨C, i2 * 3, none⟩ (.int .i8 p)).setCell ⟨C, i2 * 3 + 1, none⟩ (.int .i8 q)).setCell ⟨C, i2 * 3 + 2, none⟩ (.int .u8 r)) (C + 1) 0 64 c :=
                hb3.block (((Below.heap_setCell _ _ _ _ (by simp)).trans (Below.heap_setCell _ _ _ _ (by simp))).trans (Below.heap_setCell _ _ _ _ (by simp)))
              have hb5 := hb4.set i2 hlt2 is
              rw [Nat.zero_add] at hb5
              refine ⟨_, _, _, _, (HQ.out.below hA).kept hk (by omega) (by omega), (HI.out.below hA).kept hk (by omega), hb5, hx4.block (Below.heap_setCell _ _ _ _ (by simp)), fun j hj => ?_, (HB.out.trans (hA.mono (by omega))).trans (hk.below (by omega) (by have := hA.size; omega))⟩
              by_cases e : j = i2
              · subst e
                simp only [upd, updI, if_pos]
                exact ⟨HIS.out.symm, HVV.out⟩
              · simp only [upd, updI, if_neg e]
                exact HCG.out j (by omega)
            have HD3 := Lib.hid hD3
            clear hD3 hx3 hb3 hA
            go_wp2_with fail
            go_roundw
            case rel => exact ⟨i2 + 1, by omega, by go_num, HD3.out⟩
            case measure => simp [intOf]; omega
          · have hcg' : ∀ j : Nat, j < 64 → c j = (g j).isSome ∧ ∀ v, g j = some v → v = inV (X j) (Y j) (Z j) := fun j hj => hcg j (by omega)
            have HCG := Lib.hid hcg'
            have hq0 : QAt wr b M n ((0 : Nat) : Int) x y z (del g 0) := by rw [del_zero HN.out]; exact hq
            have hD3 : D3 s b M n g c X Y Z C (C + 1) ix iy iz w 0 wr := ⟨x, y, z, hq0, fun h => by omega, hI, hbo, hin, hB⟩
            have HD3 := Lib.hid hD3
            have hm0 := bits64 a2
            obtain ⟨k, hk⟩ : ∃ m : Nat, (m : Int) = IntKind.u64.wrap a2 % 71 := ⟨(IntKind.u64.wrap a2 % 71).toNat, by omega⟩
            have hk1 : k < 71 := by omega
            have Hk := Lib.hid hk
            clear hk hD3 hq0 hq hI hbo hin hB hcg hcg'
            go_wp2_with fail
            rw [← Hk.out]
            go_loopw [15] (fun s8 wr => ∃ m : Nat, m ≤ k ∧ s8 = .int .i64 m ∧ D3 s b M n g c X Y Z C (C + 1) ix iy iz w m wr) (fun s8 _ => k - (intOf s8).toNat)
            case atStart => exact ⟨0, by omega, rfl, HD3.out⟩
            case round =>
              clear HD3
              obtain ⟨m, hm, rfl, p, q, r, hq, hlast, hI, hbo, hin, hB⟩ := hrel
              by_cases hlt3 : m < k
              · have HQ := Lib.hid hq
                have HI := Lib.hid hI
                have HBO := Lib.hid hbo
                have HIN := Lib.hid hin
                have HB := Lib.hid hB
                have hls := hI.lt
                obtain ⟨x0, x1, x2⟩ := hI
                clear hq hbo hin hB hlast
                go_wp2_with fail
                refine (done_any b M n (m : Int) p q r (del g m) ix iy iz _ HQ.out (by omega) (by omega)).mono ?_
                rintro e w4 ⟨rfl, hq4, k4⟩
                rw [del_succ] at hq4
                have hD : D3 s b M n g c X Y Z C (C + 1) ix iy iz w (m + 1) w4 :=
                  ⟨ix, iy, iz, by exact_mod_cast hq4, fun _ => ⟨rfl, rfl, rfl⟩, HI.out.kept k4 (by omega), HBO.out.block (k4.block _ (HBO.out.lt (by omega)) (by omega)), HIN.out.block (k4.block _ (HIN.out.lt (by omega)) (by omega)), HB.out.trans (k4.below (by omega) (by omega))⟩
                have HD := Lib.hid hD
                clear hD hq4 k4
                go_wp2_with fail
                go_roundw
                case rel => exact ⟨m + 1, by omega, by go_num, HD.out⟩
                case measure => simp [intOf]; omega
              · obtain rfl : m = k := by omega
                have hD4 : D4 s b M n m g p q r c X Y Z C (C + 1) ix iy iz w wr := ⟨hq, hI, hbo, hin, hB⟩
                have HD4 := Lib.hid hD4
                have HL := Lib.hid hlast
                have HV4 := Lib.hid hq.vals
                clear hD4 hq hI hbo hin hB hlast
                go_wp2_with fail
                go_loopw [16] (fun s8 wr => ∃ j : Nat, m ≤ j ∧ (j ≤ 64 ∨ j = m) ∧ s8 = .int .i64 j ∧ D4 s b M n m g p q r c X Y Z C (C + 1) ix iy iz w wr) (fun s8 _ => 64 - (intOf s8).toNat)
                case atStart => exact ⟨m, by omega, by omega, rfl, HD4.out⟩
                case round =>
                  clear HD4
                  obtain ⟨j, hj1, hj2, rfl, hD4⟩ := hrel
                  by_cases hlt4 : j < 64
                  · have HD4 := Lib.hid hD4
                    obtain ⟨hq, hI, hbo, hin, hB⟩ := hD4
                    obtain ⟨hc1, hc2⟩ := HCG.out j hlt4
                    have hdj : del g m (j : Int) = g j := del_at (by omega)
                    obtain ⟨a, bb, d, hV⟩ : ∃ a bb d, atV (del g m) (m : Int) (inV p q r) (j : Int) = inV a bb d := back_in (fun j v hv => HV4.out _ v hv) _ p q r
                    have hE : (c j = true ∧ a = X j ∧ bb = Y j ∧ d = Z j) ∨ c j = false := by
                      cases e : g (j : Int) with
                      | none => right; rw [hc1, e]; rfl
                      | some v =>
                        left
                        have h1 := atV_some (d := inV p q r) (near_del HN.out m) (hdj.trans e)
                        rw [hV, hc2 v e] at h1
                        unfold inV at h1
                        exact ⟨by rw [hc1, e]; rfl, by simpa using h1⟩
                    have his : (del g m (j : Int)).isSome = c j := by rw [hdj]; exact hc1.symm
                    have HQ := Lib.hid hq
                    have HIS := Lib.hid his
                    have HVV := Lib.hid hV
                    clear hq hI hbo hin hB hc1 hc2 hdj his hV
                    rcases hE with ⟨hc, rfl, rfl, rfl⟩ | hc
                    · have hc' : (del g m (j : Int)).isSome = true := HIS.out.trans hc
                      have HC := Lib.hid hc
                      have HC' := Lib.hid hc'
                      clear hc hc'
                      go_wp2_with fail
                      refine (at_any b M n (m : Int) p q r (del g m) (j : Int) _ HQ.out (near_del HN.out m) (by omega) (by omega) (by omega) (by omega) (inV (X j) (Y j) (Z j)) true HVV.out HC'.out).mono ?_
                      unfold inV
                      rintro e w5 ⟨rfl, hA⟩
                      have hb3 := hA.trans ((below_alloc w5 (Obj.cells #[.int .i8 (X j), .int .i8 (Y j), .int .u8 (Z j)] 24)).mono hA.size)
                      have hD5 := HD4.out.below hb3
                      obtain ⟨y0, y1, y2⟩ := inAt_new w5 (X j) (Y j) (Z j)
                      have hr : ∀ nq, D4 s b M n m g p q r c X Y Z C (C + 1) ix iy iz w ((w5.alloc (Obj.cells #[.int .i8 (X j), .int .i8 (Y j), .int .u8 (Z j)] 24)).drewN nq) := fun nq => hD5.below ⟨rfl, rfl, rfl, Nat.le_refl _, fun _ _ => rfl⟩
                      obtain ⟨-, -, hbo, hin, -⟩ := hD5
                      have z0 := hin.x j hlt4
                      have z1 := hin.y j hlt4
                      have z2 := hin.z j hlt4
                      have z3 := hbo.cell j hlt4
                      rw [HC.out, Nat.zero_add] at z3
                      have HR := Lib.hid hr
                      clear hr hA hb3 hbo hin
                      go_wp2_with fail
                      generalize w5.alloc (Obj.cells #[.int .i8 (X j), .int .i8 (Y j), .int .u8 (Z j)] 24) = w6 at y0 y1 y2 z0 z1 z2 z3 HR ⊢
                      go_quiet (fail)
                      go_wp2_with fail
                      go_roundw
                      case rel => exact ⟨j + 1, by omega, by omega, by go_num, HR.out _⟩
                      case measure => simp [intOf]; omega
                    · have hc' : (del g m (j : Int)).isSome = false := HIS.out.trans hc
                      have HC := Lib.hid hc
                      have HC' := Lib.hid hc'
                      clear hc hc'
                      go_wp2_with fail
                      refine (at_any b M n (m : Int) p q r (del g m) (j : Int) _ HQ.out (near_del HN.out m) (by omega) (by omega) (by omega) (by omega) (inV (a) (bb) (d)) false HVV.out HC'.out).mono ?_
                      unfold inV
                      rintro e w5 ⟨rfl, hA⟩
                      have hb3 := hA.trans ((below_alloc w5 (Obj.cells #[.int .i8 (a), .int .i8 (bb), .int .u8 (d)] 24)).mono hA.size)
                      have hD5 := HD4.out.below hb3
                      obtain ⟨y0, y1, y2⟩ := inAt_new w5 (a) (bb) (d)
                      have hr : ∀ nq, D4 s b M n m g p q r c X Y Z C (C + 1) ix iy iz w ((w5.alloc (Obj.cells #[.int .i8 (a), .int .i8 (bb), .int .u8 (d)] 24)).drewN nq) := fun nq => hD5.below ⟨rfl, rfl, rfl, Nat.le_refl _, fun _ _ => rfl⟩
                      obtain ⟨-, -, hbo, hin, -⟩ := hD5
                      have z0 := hin.x j hlt4
                      have z1 := hin.y j hlt4
                      have z2 := hin.z j hlt4
                      have z3 := hbo.cell j hlt4
                      rw [HC.out, Nat.zero_add] at z3
                      have HR := Lib.hid hr
                      clear hr hA hb3 hbo hin
                      go_wp2_with fail
                      generalize w5.alloc (Obj.cells #[.int .i8 (a), .int .i8 (bb), .int .u8 (d)] 24) = w6 at y0 y1 y2 z0 z1 z2 z3 HR ⊢
                      go_quiet (fail)
                      go_wp2_with fail
                      go_roundw
                      case rel => exact ⟨j + 1, by omega, by omega, by go_num, HR.out _⟩
                      case measure => simp [intOf]; omega
                  · have HD4 := Lib.hid hD4
                    have hse := hD4.2.2.2.2.size
                    have h1 : min 64 ((m : Int) - m + 1).toNat = 0 + 1 := by omega
                    clear hD4
                    cases his : (del g m (m : Int)).isSome with
                    | true =>
                      obtain ⟨a, bb, d, hV⟩ : ∃ a bb d, atV (del g m) (m : Int) (inV p q r) (m : Int) = inV a bb d := back_in (fun j v hv => HV4.out _ v hv) _ p q r
                      clear h1
                      have HC' := Lib.hid his
                      have HVV := Lib.hid hV
                      clear his hV
                      go_wp2_with fail
                      refine (at_any b M n (m : Int) p q r (del g m) (m : Int) _ HD4.out.1 (near_del HN.out m) (by omega) (by omega) (by omega) (by omega) (inV a bb d) true HVV.out HC'.out).mono ?_
                      unfold inV
                      rintro e w5 ⟨rfl, hA⟩
                      have hb3 := hA.trans ((below_alloc w5 (Obj.cells #[.int .i8 a, .int .i8 bb, .int .u8 d] 24)).mono hA.size)
                      have HD5 := Lib.hid (HD4.out.below hb3)
                      have HY := Lib.hid (inAt_new w5 a bb d)
                      clear hA hb3
                      go_wp2_with fail
                      generalize w5.alloc (Obj.cells #[.int .i8 a, .int .i8 bb, .int .u8 d] 24) = w6 at HD5 HY ⊢
                      obtain ⟨t, ht⟩ : ∃ t, w5.heap.size = t := ⟨_, rfl⟩
                      rw [ht] at HY ⊢
                      clear ht
                      refine (told_law _).mono ?_
                      rintro e w7 ⟨rfl, hA⟩
                      have hD7 := HD5.out.below hA
                      obtain ⟨y0, y1, y2⟩ := HY.out.below hA
                      obtain ⟨hq, ⟨x0, x1, x2⟩, hbo, hin, hB⟩ := hD7
                      have HQ := Lib.hid hq
                      have HB := Lib.hid hB
                      clear hq hbo hin hB hA
                      go_wp2_with fail
                      refine (from_any b (m : Int) _ HQ.out.c0).mono ?_
                      rintro e w' ⟨rfl, rfl⟩
                      go_wp2_with fail
                      all_goals
                        refine (put_no2 b M n (m : Int) p q r (del g m) ((m : Int) - 1) 0 0 0 _ HQ.out (by decide) (by omega) (by omega) (by omega) (by omega) (by unfold nearB; simp; omega)).mono ?_
                        rintro e w8 ⟨rfl, hA⟩
                        go_wp2_with fail
                        go_ret
                        exact ⟨rfl, by rw [HS.out]; exact HB.out.trans (hA.mono (by have := HB.out.size; have := HS.out; omega))⟩
                    | false =>
                      have hV : atV (del g m) (m : Int) (inV p q r) (m : Int) = inV p q r := by
                        unfold atV
                        rw [h1]
                        have hn : (del g m) ((m : Int) + ((0 : Nat) : Int)) = none := by simpa using his
                        rw [back, hn]; rfl
                      clear h1
                      rcases Nat.eq_zero_or_pos m with hm0' | hm0'
                      · have HC' := Lib.hid his
                        have HVV := Lib.hid hV
                        clear his hV
                        have hm00 : ((m : Int) == 0) = true := by simp [hm0']
                        clear hm0'
                        go_wp2_with fail
                        refine (at_any b M n (m : Int) p q r (del g m) (m : Int) _ HD4.out.1 (near_del HN.out m) (by omega) (by omega) (by omega) (by omega) (inV p q r) false HVV.out HC'.out).mono ?_
                        unfold inV
                        rintro e w5 ⟨rfl, hA⟩
                        have hb3 := hA.trans ((below_alloc w5 (Obj.cells #[.int .i8 p, .int .i8 q, .int .u8 r] 24)).mono hA.size)
                        have HD5 := Lib.hid (HD4.out.below hb3)
                        have HY := Lib.hid (inAt_new w5 p q r)
                        clear hA hb3
                        go_wp2_with fail
                        generalize w5.alloc (Obj.cells #[.int .i8 p, .int .i8 q, .int .u8 r] 24) = w6 at HD5 HY ⊢
                        obtain ⟨t, ht⟩ : ∃ t, w5.heap.size = t := ⟨_, rfl⟩
                        rw [ht] at HY ⊢
                        clear ht
                        refine (told_law _).mono ?_
                        rintro e w7 ⟨rfl, hA⟩
                        have hD7 := HD5.out.below hA
                        obtain ⟨y0, y1, y2⟩ := HY.out.below hA
                        obtain ⟨hq, ⟨x0, x1, x2⟩, hbo, hin, hB⟩ := hD7
                        have HQ := Lib.hid hq
                        have HB := Lib.hid hB
                        clear hq hbo hin hB hA
                        go_wp2_with fail
                        refine (from_any b (m : Int) _ HQ.out.c0).mono ?_
                        rintro e w' ⟨rfl, rfl⟩
                        go_wp2_with fail
                        all_goals
                          refine (put_no2 b M n (m : Int) p q r (del g m) ((m : Int) - 1) 0 0 0 _ HQ.out (by decide) (by omega) (by omega) (by omega) (by omega) (by unfold nearB; simp; omega)).mono ?_
                          rintro e w8 ⟨rfl, hA⟩
                          go_wp2_with fail
                          go_ret
                          exact ⟨rfl, by rw [HS.out]; exact HB.out.trans (hA.mono (by have := HB.out.size; have := HS.out; omega))⟩
                      · obtain ⟨e1, e2, e3⟩ := HL.out hm0'
                        rw [show inV p q r = inV ix iy iz from by rw [e1, e2, e3]] at hV
                        rw [show inV ix iy iz = inV ix iy iz from rfl] at hV
                        have hV : atV (del g m) (m : Int) (inV p q r) (m : Int) = inV ix iy iz := by rw [e1, e2, e3]; exact hV
                        clear e1 e2 e3
                        have HC' := Lib.hid his
                        have HVV := Lib.hid hV
                        clear his hV
                        go_wp2_with fail
                        refine (at_any b M n (m : Int) p q r (del g m) (m : Int) _ HD4.out.1 (near_del HN.out m) (by omega) (by omega) (by omega) (by omega) (inV ix iy iz) false HVV.out HC'.out).mono ?_
                        unfold inV
                        rintro e w5 ⟨rfl, hA⟩
                        have hb3 := hA.trans ((below_alloc w5 (Obj.cells #[.int .i8 ix, .int .i8 iy, .int .u8 iz] 24)).mono hA.size)
                        have HD5 := Lib.hid (HD4.out.below hb3)
                        have HY := Lib.hid (inAt_new w5 ix iy iz)
                        clear hA hb3
                        go_wp2_with fail
                        generalize w5.alloc (Obj.cells #[.int .i8 ix, .int .i8 iy, .int .u8 iz] 24) = w6 at HD5 HY ⊢
                        obtain ⟨t, ht⟩ : ∃ t, w5.heap.size = t := ⟨_, rfl⟩
                        rw [ht] at HY ⊢
                        clear ht
                        refine (told_law _).mono ?_
                        rintro e w7 ⟨rfl, hA⟩
                        have hD7 := HD5.out.below hA
                        obtain ⟨y0, y1, y2⟩ := HY.out.below hA
                        obtain ⟨hq, ⟨x0, x1, x2⟩, hbo, hin, hB⟩ := hD7
                        have HQ := Lib.hid hq
                        have HB := Lib.hid hB
                        clear hq hbo hin hB hA
                        go_wp2_with fail
                        refine (from_any b (m : Int) _ HQ.out.c0).mono ?_
                        rintro e w' ⟨rfl, rfl⟩
                        go_wp2_with fail
                        all_goals
                          refine (put_no2 b M n (m : Int) p q r (del g m) ((m : Int) - 1) 0 0 0 _ HQ.out (by decide) (by omega) (by omega) (by omega) (by omega) (by unfold nearB; simp; omega)).mono ?_
                          rintro e w8 ⟨rfl, hA⟩
                          go_wp2_with fail
                          go_ret
                          exact ⟨rfl, by rw [HS.out]; exact HB.out.trans (hA.mono (by have := HB.out.size; have := HS.out; omega))⟩
end Go.Proofs.Ytabgooglfgioiaa
