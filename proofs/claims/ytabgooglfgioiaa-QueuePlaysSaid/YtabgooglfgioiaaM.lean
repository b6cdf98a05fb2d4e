/-
  Queue: the Go text of QueueRepeats returns true for every input.
-/
import Derived.Test.YtabgooglfgioiaaH
import Derived.Test.YtabgooglfgioiaaL
namespace Go.Proofs.Ytabgooglfgioiaa
set_option linter.unusedVariables false
open Go.ChangeShapes Go.WideShapes Go.ChangeAt Go.RowKit

/-- An input that came in. -/
def IsIn (w : World) (v : Value) : Prop := ∃ x y z : Int, v = .agg #[.int .i8 x, .int .i8 y, .int .u8 z] ∧ (-128 ≤ x ∧ x ≤ 127) ∧ (-128 ≤ y ∧ y ≤ 127) ∧ (0 ≤ z ∧ z ≤ 255)
theorem open_in {H : Type} {enc : TypeId × Value → H} {W : World} {b0 : Nat} {v : Value} {d : DataW H} {p : List MemPlace} (hv : Value.okWide Try.prog W .any b0 24 v) (h : DataW.Trod enc Try.prog W 0 (fun _ => true) true 24 v d p) : IsIn W v := by
  obtain ⟨cs, rfl, hsz⟩ := okWide_struct Try.underlying24 hv
  obtain ⟨z, hz, hb⟩ := open_plain [.i8, .i8, .u8] (hsz.trans (by kernel_rfl)) (by kernel_rfl) h
  exact ⟨z 0, z 1, z 2, hz, bd_i8 (hb 0 .i8 rfl), bd_i8 (hb 1 .i8 rfl), bd_u8 (hb 2 .u8 rfl)⟩

/-- Steps that came in. -/
def IsOps (w : World) (v : Value) : Prop := ∃ a len cap, v = .slice a len cap ∧ len ≤ cap ∧ cap ≤ maxLen ∧ (0 < len → ∃ b o, a = some ⟨b, o, none⟩ ∧ b < w.heap.size ∧
  ∀ i, i < len → ∃ k f x y z : Int, w.cell? ⟨b, o + i * 5, none⟩ = some (.int .i64 k) ∧ w.cell? ⟨b, o + i * 5 + 1, none⟩ = some (.int .i64 f) ∧ w.cell? ⟨b, o + i * 5 + 2, none⟩ = some (.int .i8 x) ∧ w.cell? ⟨b, o + i * 5 + 3, none⟩ = some (.int .i8 y) ∧ w.cell? ⟨b, o + i * 5 + 4, none⟩ = some (.int .u8 z) ∧
    (-9223372036854775808 ≤ k ∧ k ≤ 9223372036854775807) ∧ (-9223372036854775808 ≤ f ∧ f ≤ 9223372036854775807) ∧ (-128 ≤ x ∧ x ≤ 127) ∧ (-128 ≤ y ∧ y ≤ 127) ∧ (0 ≤ z ∧ z ≤ 255))
theorem open_ops {H : Type} {enc : TypeId × Value → H} {W : World} {b0 : Nat} {v : Value} {d : DataW H} {p : List MemPlace} (hv : Value.okWide Try.prog W .any b0 25 v) (h : DataW.Trod enc Try.prog W 0 (fun _ => true) true 25 v d p) : IsOps W v := by
  obtain ⟨a, len, cap, rfl, h1, h2, h3⟩ := open_rows [.i64, .i64, .i8, .i8, .u8] Try.underlying25 (by kernel_rfl) (by decide) (by kernel_rfl) hv h
  refine ⟨a, len, cap, rfl, h1, h2, fun h0 => ?_⟩
  obtain ⟨b, o, z, rfl, hb, hz⟩ := h3 h0
  refine ⟨b, o, rfl, hb, fun i hi => ⟨z i 0, z i 1, z i 2, z i 3, z i 4, ?_⟩⟩
  obtain ⟨c0, l0⟩ := hz i hi 0 .i64 rfl
  obtain ⟨c1, l1⟩ := hz i hi 1 .i64 rfl
  obtain ⟨c2, l2⟩ := hz i hi 2 .i8 rfl
  obtain ⟨c3, l3⟩ := hz i hi 3 .i8 rfl
  obtain ⟨c4, l4⟩ := hz i hi 4 .u8 rfl
  simp only [List.length_cons, List.length_nil, Nat.zero_add, Nat.reduceAdd, Nat.add_zero] at c0 c1 c2 c3 c4
  refine ⟨c0, by rw [← c1, Nat.add_assoc], by rw [← c2, Nat.add_assoc], by rw [← c3, Nat.add_assoc], by rw [← c4, Nat.add_assoc], bd_i64 l0, bd_i64 l1, bd_i8 l2, bd_i8 l3, bd_u8 l4⟩

theorem put_may (b M n : Nat) (f x y z : Int) (g : Int → Option Value) (fr i j k : Int) (w : World) (h : QAt w b M n f x y z g) (hm : (decide (-127 ≤ i) && decide (-127 ≤ j)) = false) :
    Calls Try.prog 10 #[.pointer (some ⟨b, 0, none⟩), .int .i64 fr, .agg #[.int .i8 i, .int .i8 j, .int .u8 k]] w fun e w' => e = .returned (.bool false) ∧ QAt w' b M (n + 1) f x y z g ∧ Kept (fun k => k = M) w w' := by
  refine (put_no1 b M n f x y z g fr i j k w h hm).mono ?_
  rintro e w' ⟨rfl, hB⟩
  have hk : Kept (fun _ => False) w w' := Kept.of_below hB
  obtain ⟨c0, c1, c2, c3, c4, f0, f1, f2, f3, f4, ⟨D, hD, hr⟩, hne, hv⟩ := h.kept hk (by simp) (by simp)
  exact ⟨rfl, ⟨c0, c1, c2, c3, c4, f0, f1, f2, f3, f4, ⟨D, hD.mono (Nat.le_succ n), hr⟩, hne, hv⟩, hk.mono (fun _ h => h.elim)⟩

/-- What a round of QueueRepeats keeps. -/
def RW (s : Nat) (w1 : World) (b M : Nat) (x y z : Int) (i : Nat) (wr : World) : Prop :=
  ∃ g n, n ≤ i ∧ QAt wr b M n 100 x y z g ∧ Near g 100 ∧ InAt wr s x y z ∧ Kept (fun k => k = M) w1 wr

set_option maxRecDepth 100000 in
set_option maxHeartbeats 4000000 in
theorem law_QueueRepeats (v0 v1 : Value) (a2 : Int) (w : World) (w0 : IsIn w v0) (w1 : IsOps w v1) (w2 : (Lit.int .i64 a2).wf = true) :
    Calls Try.prog 3 #[v0, v1, .int .i64 a2] w fun e w' => e = .returned (.bool true) ∧ Below w.heap.size w w' := by
  obtain ⟨x, y, z, rfl, hx, hy, hz⟩ := w0
  obtain ⟨a1, len, cap, rfl, hl1, hl2, hel⟩ := w1
  unfold maxLen at hl2
  have Hel := Lib.hid hel
  clear hel w2
  obtain ⟨s, hs⟩ : ∃ s, w.heap.size = s := ⟨_, rfl⟩
  have HS := Lib.hid hs
  go_enter Try.func3, Try.ntmps3
  go_wp2_with fail
  have hI := inAt_new w x y z
  have hA := below_alloc w (Obj.cells #[.int .i8 x, .int .i8 y, .int .u8 z] 24)
  have hz0 := size_alloc w (Obj.cells #[.int .i8 x, .int .i8 y, .int .u8 z] 24)
  generalize w.alloc (Obj.cells #[.int .i8 x, .int .i8 y, .int .u8 z] 24) = w0 at hI hA hz0 ⊢
  rw [hs] at hI hA hz0
  refine (new_any 100 x y z _).mono ?_
  rintro e w1 ⟨b, M, rfl, hq1, hb, hM, hB1⟩
  have hI1 := hI.below hB1
  have hB2 := hA.trans (hB1.mono (by omega))
  rw [hz0] at hb hM hB1
  have HI1 := Lib.hid hI1
  have HB2 := Lib.hid hB2
  have HQ1 := Lib.hid hq1
  have hne := hq1.ne
  have hbs := cell_lt hq1.c0
  have hMs := hq1.map.lt
  have hw1 := hB1.size
  clear hs hI hA hB1 hI1 hB2 hq1 hz0
  by_cases hlen : (40 : Int) < (len : Int)
  · go_wp2_with fail
    refine (told_law _).mono ?_
    rintro e w6 ⟨rfl, hA⟩
    go_wp2_with fail
    go_ret
    exact ⟨rfl, by rw [HS.out]; exact HB2.out.trans (hA.mono (by have := HB2.out.size; have := HS.out; omega))⟩
  · go_wp2_with fail
    go_loopw [8] (fun s8 wr => ∃ i : Nat, i ≤ len ∧ s8 = .int .i64 i ∧ RW s w1 b M x y z i wr) (fun s8 _ => len - (intOf s8).toNat)
    case atStart => exact ⟨0, by omega, rfl, _, 0, by omega, HQ1.out, (fun k hk => by cases hk), HI1.out, Kept.refl _ _⟩
    case round =>
      obtain ⟨i, hi, rfl, g, n, hn, hq, hnr, hI, hK⟩ := hrel
      by_cases hlt : i < len
      · obtain ⟨lb, lo, rfl, hbl, hcell⟩ := Hel.out (by omega)
        obtain ⟨ok, fr, p, q, r, k0, k1, k2, k3, k4, r0, r1, r2, r3, r4⟩ := hcell i hlt
        rw [HS.out] at hbl
        have kb : ∀ o, wr.cell? ⟨lb, o, none⟩ = w.cell? ⟨lb, o, none⟩ := fun o => (hK.cell (p := ⟨lb, o, none⟩) (by simp; omega) (by simp; omega)).trans (HB2.out.cell (p := ⟨lb, o, none⟩) (by exact hbl))
        rw [← kb] at k0 k1 k2 k3 k4
        have KK := Lib.hid (And.intro k1 (And.intro k2 (And.intro k3 k4)))
        clear hcell k0 k2 k3 k4 kb
        obtain ⟨m, hm⟩ : ∃ m : Nat, (m : Int) = IntKind.u64.wrap fr % 64 := ⟨(IntKind.u64.wrap fr % 64).toNat, by have := bits64 fr; omega⟩
        have hm1 : m < 64 := by have := bits64 fr; omega
        have hfr0 := bits64 fr
        have Hm := Lib.hid hm
        have HQ := Lib.hid hq
        have HI := Lib.hid hI
        have HK := Lib.hid hK
        have HN := Lib.hid hnr
        clear hm hq hI hK hnr
        go_wp2_with fail
        rw [← Hm.out]
        obtain ⟨p1, q1, r1, hV⟩ : ∃ p1 q1 r1, atV g 100 (inV x y z) (100 + (m : Int)) = inV p1 q1 r1 := back_in (fun j v hv => HQ.out.vals _ v hv) _ x y z
        obtain ⟨is0, his⟩ : ∃ is0, (g (100 + (m : Int))).isSome = is0 := ⟨_, rfl⟩
        have HV := Lib.hid hV
        have HIS := Lib.hid his
        clear hV his
        refine (at_any b M n 100 x y z g (100 + (m : Int)) wr HQ.out HN.out (by omega) (by omega) (by omega) (by omega) (inV p1 q1 r1) is0 HV.out HIS.out).mono ?_
        unfold inV
        rintro e w2 ⟨rfl, hA⟩
        have hz2 := hA.size
        have hb2 := below_alloc w2 (Obj.cells #[.int .i8 p1, .int .i8 q1, .int .u8 r1] 24)
        have hb3 := hA.trans (hb2.mono hz2)
        have hwr : lb < wr.heap.size := cell_lt k1
        obtain ⟨k1', k2, k3, k4⟩ : (w2.alloc (Obj.cells #[.int .i8 p1, .int .i8 q1, .int .u8 r1] 24)).cell? ⟨lb, lo + i * 5 + 1, none⟩ = some (.int .i64 fr) ∧ (w2.alloc (Obj.cells #[.int .i8 p1, .int .i8 q1, .int .u8 r1] 24)).cell? ⟨lb, lo + i * 5 + 2, none⟩ = some (.int .i8 p) ∧ (w2.alloc (Obj.cells #[.int .i8 p1, .int .i8 q1, .int .u8 r1] 24)).cell? ⟨lb, lo + i * 5 + 3, none⟩ = some (.int .i8 q) ∧ (w2.alloc (Obj.cells #[.int .i8 p1, .int .i8 q1, .int .u8 r1] 24)).cell? ⟨lb, lo + i * 5 + 4, none⟩ = some (.int .u8 r) := by
          obtain ⟨h1, h2, h3, h4⟩ := KK.out
          exact ⟨(hb3.cell (p := ⟨lb, _, none⟩) hwr).trans h1, (hb3.cell (p := ⟨lb, _, none⟩) hwr).trans h2, (hb3.cell (p := ⟨lb, _, none⟩) hwr).trans h3, (hb3.cell (p := ⟨lb, _, none⟩) hwr).trans h4⟩
        have KKK := Lib.hid (And.intro k2 (And.intro k3 k4))
        have HB3 := Lib.hid hb3
        have HX := Lib.hid (inAt_new w2 p1 q1 r1)
        clear k1' hb2 hA hb3
        go_wp2_with fail
        clear k2 k3 k4 k1
        generalize hw3 : w2.alloc (Obj.cells #[.int .i8 p1, .int .i8 q1, .int .u8 r1] 24) = w3 at KKK HB3 HX ⊢
        have HQ3 := Lib.hid (HQ.out.below HB3.out)
        have HI3 := Lib.hid (HI.out.below HB3.out)
        have HK3 := Lib.hid (HK.out.trans (Kept.of_below HB3.out))
        have hl3 : lb < w3.heap.size := by have := HB3.out.size; omega
        have ht3 : w2.heap.size < w3.heap.size := HX.out.lt
        obtain ⟨t, ht⟩ : ∃ t, w2.heap.size = t := ⟨_, rfl⟩
        rw [ht] at HX ht3 ⊢
        have hbt : b < t := by rw [← ht]; have := HQ.out; have := cell_lt this.c0; omega
        have hMt : M < t := by rw [← ht]; have := HQ.out.map.lt; omega
        have hst : s < t := by rw [← ht]; have := HI.out.lt; omega
        have hlt' : lb < t := by omega
        clear ht hw3 HQ HI HK HB3 KK hz2 hwr
        by_cases hmay : (decide (-127 ≤ p) && decide (-127 ≤ q)) = true
        · cases is0
          · have hgn : g (100 + (m : Int)) = none := by have := HIS.out; simpa using this
            have hput : putG g (100 + (m : Int)) (inV p q r) = updM g (100 + (m : Int)) (some (inV p q r)) := by unfold putG; rw [hgn]; rfl
            have hmay' : -127 ≤ p ∧ -127 ≤ q := by simpa using hmay
            have hat : (putG g (100 + (m : Int)) (inV p q r)) (100 + (m : Int)) = some (inV p q r) := by rw [hput]; simp [updM]
            have HAT := Lib.hid hat
            clear hgn hput hat hmay
            refine (put_near b M n 100 x y z g (100 + (m : Int)) p q r w3 HQ3.out hmay' (by omega) (by omega) (by omega) (by omega) (by omega)).mono ?_
            rintro e w4 ⟨rfl, hq4, k4⟩
            rw [HIS.out]
            have hK4 : Kept (fun k => k = M) w1 w4 := HK3.out.trans k4
            have hI4 := HI3.out.kept k4 (by omega)
            have hX4 := HX.out.kept k4 (by omega)
            have hs4 := k4.size
            obtain ⟨j2, j3, j4⟩ : w4.cell? ⟨lb, lo + i * 5 + 2, none⟩ = some (.int .i8 p) ∧ w4.cell? ⟨lb, lo + i * 5 + 3, none⟩ = some (.int .i8 q) ∧ w4.cell? ⟨lb, lo + i * 5 + 4, none⟩ = some (.int .u8 r) := by
              obtain ⟨h2, h3, h4⟩ := KKK.out
              exact ⟨(k4.cell (p := ⟨lb, _, none⟩) (by show ¬ lb = M; omega) hl3).trans h2, (k4.cell (p := ⟨lb, _, none⟩) (by show ¬ lb = M; omega) hl3).trans h3, (k4.cell (p := ⟨lb, _, none⟩) (by show ¬ lb = M; omega) hl3).trans h4⟩
            have hg4 : Near (putG g (100 + (m : Int)) (inV p q r)) 100 := HN.out.put (by omega) (by omega) _
            have HQ4 := Lib.hid hq4
            have HK4 := Lib.hid hK4
            have HI4 := Lib.hid hI4
            have HX4 := Lib.hid hX4
            have HJ := Lib.hid (And.intro j2 (And.intro j3 j4))
            have HG4 := Lib.hid hg4
            clear hq4 k4 hK4 hI4 hX4 j2 j3 j4 hg4
            go_wp2_with fail
            refine (at_any b M _ 100 x y z (putG g (100 + (m : Int)) (inV p q r)) (100 + (m : Int)) w4 HQ4.out HG4.out (by omega) (by omega) (by omega) (by omega) (inV p q r) true (atV_some HG4.out HAT.out) (by rw [HAT.out]; rfl)).mono ?_
            unfold inV
            rintro e w5 ⟨rfl, hA⟩
            have hz5 := hA.size
            have hb2 := below_alloc w5 (Obj.cells #[.int .i8 p, .int .i8 q, .int .u8 r] 24)
            have hb3 := hA.trans (hb2.mono hz5)
            obtain ⟨j2, j3, j4⟩ := HJ.out
            have hl4 : lb < w4.heap.size := by omega
            replace j2 := (hb3.cell (p := ⟨lb, _, none⟩) hl4).trans j2
            replace j3 := (hb3.cell (p := ⟨lb, _, none⟩) hl4).trans j3
            replace j4 := (hb3.cell (p := ⟨lb, _, none⟩) hl4).trans j4
            obtain ⟨x0, x1, x2⟩ := HX4.out.below hb3
            obtain ⟨y0, y1, y2⟩ := inAt_new w5 p q r
            have hr : ∀ nq, RW s w1 b M x y z (i + 1) ((w5.alloc (Obj.cells #[.int .i8 p, .int .i8 q, .int .u8 r] 24)).drewN nq) := fun nq =>
              ⟨(putG g (100 + (m : Int)) (inV p q r)), n + 1, by omega, (HQ4.out.below hb3).kept ((Kept.refl (fun _ => False) _).drewN nq) (by simp) (by simp), HG4.out, (HI4.out.below hb3).kept ((Kept.refl (fun _ => False) _).drewN nq) (by simp), (HK4.out.trans (Kept.of_below hb3)).drewN nq⟩
            have HR := Lib.hid hr
            clear hr hA hb2 hb3 HJ HX4 HI4 HK4 HQ4 HG4
            go_wp2_with fail
            generalize w5.alloc (Obj.cells #[.int .i8 p, .int .i8 q, .int .u8 r] 24) = w6 at j2 j3 j4 x0 x1 x2 y0 y1 y2 HR ⊢
            go_quiet (fail)
            go_wp2_with fail
            go_roundw
            case rel => exact ⟨i + 1, by omega, by go_num, HR.out _⟩
            case measure => simp [intOf]; omega
          · have hput : putG g (100 + (m : Int)) (inV p q r) = g := by unfold putG; rw [HIS.out]; rfl
            have hmay' : -127 ≤ p ∧ -127 ≤ q := by simpa using hmay
            have HP := Lib.hid hput
            clear hput hmay
            refine (put_near b M n 100 x y z g (100 + (m : Int)) p q r w3 HQ3.out hmay' (by omega) (by omega) (by omega) (by omega) (by omega)).mono ?_
            rintro e w4 ⟨rfl, hq4, k4⟩
            rw [HIS.out]
            rw [HP.out] at hq4
            have hK4 : Kept (fun k => k = M) w1 w4 := HK3.out.trans k4
            have hI4 := HI3.out.kept k4 (by omega)
            have hX4 := HX.out.kept k4 (by omega)
            have hs4 := k4.size
            obtain ⟨j2, j3, j4⟩ : w4.cell? ⟨lb, lo + i * 5 + 2, none⟩ = some (.int .i8 p) ∧ w4.cell? ⟨lb, lo + i * 5 + 3, none⟩ = some (.int .i8 q) ∧ w4.cell? ⟨lb, lo + i * 5 + 4, none⟩ = some (.int .u8 r) := by
              obtain ⟨h2, h3, h4⟩ := KKK.out
              exact ⟨(k4.cell (p := ⟨lb, _, none⟩) (by show ¬ lb = M; omega) hl3).trans h2, (k4.cell (p := ⟨lb, _, none⟩) (by show ¬ lb = M; omega) hl3).trans h3, (k4.cell (p := ⟨lb, _, none⟩) (by show ¬ lb = M; omega) hl3).trans h4⟩
            have hg4 : Near g 100 := HN.out
            have HQ4 := Lib.hid hq4
            have HK4 := Lib.hid hK4
            have HI4 := Lib.hid hI4
            have HX4 := Lib.hid hX4
            have HJ := Lib.hid (And.intro j2 (And.intro j3 j4))
            have HG4 := Lib.hid hg4
            clear hq4 k4 hK4 hI4 hX4 j2 j3 j4 hg4
            go_wp2_with fail
            refine (at_any b M _ 100 x y z g (100 + (m : Int)) w4 HQ4.out HG4.out (by omega) (by omega) (by omega) (by omega) (inV p1 q1 r1) true HV.out HIS.out).mono ?_
            unfold inV
            rintro e w5 ⟨rfl, hA⟩
            have hz5 := hA.size
            have hb2 := below_alloc w5 (Obj.cells #[.int .i8 p1, .int .i8 q1, .int .u8 r1] 24)
            have hb3 := hA.trans (hb2.mono hz5)
            obtain ⟨j2, j3, j4⟩ := HJ.out
            have hl4 : lb < w4.heap.size := by omega
            replace j2 := (hb3.cell (p := ⟨lb, _, none⟩) hl4).trans j2
            replace j3 := (hb3.cell (p := ⟨lb, _, none⟩) hl4).trans j3
            replace j4 := (hb3.cell (p := ⟨lb, _, none⟩) hl4).trans j4
            obtain ⟨x0, x1, x2⟩ := HX4.out.below hb3
            obtain ⟨y0, y1, y2⟩ := inAt_new w5 p1 q1 r1
            have hr : ∀ nq, RW s w1 b M x y z (i + 1) ((w5.alloc (Obj.cells #[.int .i8 p1, .int .i8 q1, .int .u8 r1] 24)).drewN nq) := fun nq =>
              ⟨g, n + 1, by omega, (HQ4.out.below hb3).kept ((Kept.refl (fun _ => False) _).drewN nq) (by simp) (by simp), HG4.out, (HI4.out.below hb3).kept ((Kept.refl (fun _ => False) _).drewN nq) (by simp), (HK4.out.trans (Kept.of_below hb3)).drewN nq⟩
            have HR := Lib.hid hr
            clear hr hA hb2 hb3 HJ HX4 HI4 HK4 HQ4 HG4
            go_wp2_with fail
            generalize w5.alloc (Obj.cells #[.int .i8 p1, .int .i8 q1, .int .u8 r1] 24) = w6 at j2 j3 j4 x0 x1 x2 y0 y1 y2 HR ⊢
            go_quiet (fail)
            go_wp2_with fail
            go_roundw
            case rel => exact ⟨i + 1, by omega, by go_num, HR.out _⟩
            case measure => simp [intOf]; omega
        · have hmay' : (decide (-127 ≤ p) && decide (-127 ≤ q)) = false := by simpa using hmay
          clear hmay
          refine (put_may b M n 100 x y z g (100 + (m : Int)) p q r w3 HQ3.out hmay').mono ?_
          rintro e w4 ⟨rfl, hq4, k4⟩
          have hK4 : Kept (fun k => k = M) w1 w4 := HK3.out.trans k4
          have hI4 := HI3.out.kept k4 (by omega)
          have hX4 := HX.out.kept k4 (by omega)
          have hs4 := k4.size
          obtain ⟨j2, j3, j4⟩ : w4.cell? ⟨lb, lo + i * 5 + 2, none⟩ = some (.int .i8 p) ∧ w4.cell? ⟨lb, lo + i * 5 + 3, none⟩ = some (.int .i8 q) ∧ w4.cell? ⟨lb, lo + i * 5 + 4, none⟩ = some (.int .u8 r) := by
            obtain ⟨h2, h3, h4⟩ := KKK.out
            exact ⟨(k4.cell (p := ⟨lb, _, none⟩) (by show ¬ lb = M; omega) hl3).trans h2, (k4.cell (p := ⟨lb, _, none⟩) (by show ¬ lb = M; omega) hl3).trans h3, (k4.cell (p := ⟨lb, _, none⟩) (by show ¬ lb = M; omega) hl3).trans h4⟩
          have hg4 : Near g 100 := HN.out
          have HQ4 := Lib.hid hq4
          have HK4 := Lib.hid hK4
          have HI4 := Lib.hid hI4
          have HX4 := Lib.hid hX4
          have HJ := Lib.hid (And.intro j2 (And.intro j3 j4))
          have HG4 := Lib.hid hg4
          clear hq4 k4 hK4 hI4 hX4 j2 j3 j4 hg4
          go_wp2_with fail
          refine (at_any b M _ 100 x y z g (100 + (m : Int)) w4 HQ4.out HG4.out (by omega) (by omega) (by omega) (by omega) (inV p1 q1 r1) is0 HV.out HIS.out).mono ?_
          unfold inV
          rintro e w5 ⟨rfl, hA⟩
          have hz5 := hA.size
          have hb2 := below_alloc w5 (Obj.cells #[.int .i8 p1, .int .i8 q1, .int .u8 r1] 24)
          have hb3 := hA.trans (hb2.mono hz5)
          obtain ⟨j2, j3, j4⟩ := HJ.out
          have hl4 : lb < w4.heap.size := by omega
          replace j2 := (hb3.cell (p := ⟨lb, _, none⟩) hl4).trans j2
          replace j3 := (hb3.cell (p := ⟨lb, _, none⟩) hl4).trans j3
          replace j4 := (hb3.cell (p := ⟨lb, _, none⟩) hl4).trans j4
          obtain ⟨x0, x1, x2⟩ := HX4.out.below hb3
          obtain ⟨y0, y1, y2⟩ := inAt_new w5 p1 q1 r1
          have hr : ∀ nq, RW s w1 b M x y z (i + 1) ((w5.alloc (Obj.cells #[.int .i8 p1, .int .i8 q1, .int .u8 r1] 24)).drewN nq) := fun nq =>
            ⟨g, n + 1, by omega, (HQ4.out.below hb3).kept ((Kept.refl (fun _ => False) _).drewN nq) (by simp) (by simp), HG4.out, (HI4.out.below hb3).kept ((Kept.refl (fun _ => False) _).drewN nq) (by simp), (HK4.out.trans (Kept.of_below hb3)).drewN nq⟩
          have HR := Lib.hid hr
          clear hr hA hb2 hb3 HJ HX4 HI4 HK4 HQ4 HG4
          go_wp2_with fail
          generalize w5.alloc (Obj.cells #[.int .i8 p1, .int .i8 q1, .int .u8 r1] 24) = w6 at j2 j3 j4 x0 x1 x2 y0 y1 y2 HR ⊢
          go_quiet (fail)
          go_wp2_with fail
          go_roundw
          case rel => exact ⟨i + 1, by omega, by go_num, HR.out _⟩
          case measure => simp [intOf]; omega
      · have hm0 := bits64 a2
        obtain ⟨m, hm⟩ : ∃ m : Nat, (m : Int) = IntKind.u64.wrap a2 % 90 := ⟨(IntKind.u64.wrap a2 % 90).toNat, by omega⟩
        have hm1 : m < 90 := by omega
        have Hm := Lib.hid hm
        have hvals : ∀ (j : Nat) v, g (100 + (j : Int)) = some v → ∃ i j l, v = inV i j l := fun j v hv => hq.vals _ v hv
        obtain ⟨p0, q0, r0, hV0⟩ : ∃ p1 q1 r1, atV g 100 (inV x y z) (101 + (m : Int) - 1) = inV p1 q1 r1 := back_in hvals _ x y z
        obtain ⟨is0, his0⟩ : ∃ is1, (g (101 + (m : Int) - 1)).isSome = is1 := ⟨_, rfl⟩
        have hE1 : (∃ p1 q1 r1, atV g 100 (inV x y z) (101 + (m : Int)) = inV p1 q1 r1 ∧ (g (101 + (m : Int))).isSome = true) ∨ (atV g 100 (inV x y z) (101 + (m : Int)) = inV p0 q0 r0 ∧ (g (101 + (m : Int))).isSome = false) := by
          cases his1 : (g (101 + (m : Int))).isSome with
          | true =>
            obtain ⟨p1, q1, r1, hV1⟩ : ∃ p1 q1 r1, atV g 100 (inV x y z) (101 + (m : Int)) = inV p1 q1 r1 := back_in hvals _ x y z
            exact Or.inl ⟨p1, q1, r1, hV1, rfl⟩
          | false =>
            refine Or.inr ⟨?_, rfl⟩
            rw [← hV0]
            unfold atV
            by_cases h63 : m < 63
            · rw [show min 64 (101 + (m : Int) - 100 + 1).toNat = (m + 1) + 1 from by omega, show min 64 (101 + (m : Int) - 1 - 100 + 1).toNat = m + 1 from by omega]
              have hn : g (100 + ((m + 1 : Nat) : Int)) = none := by
                have : (100 + ((m + 1 : Nat) : Int)) = 101 + (m : Int) := by omega
                rw [this]; simpa using his1
              rw [back, hn]; rfl
            · rw [show min 64 (101 + (m : Int) - 100 + 1).toNat = 64 from by omega, show min 64 (101 + (m : Int) - 1 - 100 + 1).toNat = 64 from by omega]
        have hE2 : (∃ p1 q1 r1, atV g 100 (inV x y z) 100 = inV p1 q1 r1 ∧ (g 100).isSome = true) ∨ (atV g 100 (inV x y z) 100 = inV x y z ∧ (g 100).isSome = false) := by
          cases his2 : (g 100).isSome with
          | true =>
            obtain ⟨p1, q1, r1, hV1⟩ : ∃ p1 q1 r1, atV g 100 (inV x y z) 100 = inV p1 q1 r1 := back_in hvals _ x y z
            exact Or.inl ⟨p1, q1, r1, hV1, rfl⟩
          | false =>
            refine Or.inr ⟨?_, rfl⟩
            unfold atV
            rw [show min 64 ((100 : Int) - 100 + 1).toNat = 0 + 1 from by omega]
            have hn : g (100 + ((0 : Nat) : Int)) = none := by simpa using his2
            rw [back, hn]; rfl
        have HV0 := Lib.hid hV0
        have HS0 := Lib.hid his0
        have HQ := Lib.hid hq
        have HI := Lib.hid hI
        have HN := Lib.hid hnr
        have HB := Lib.hid (HB2.out.trans (hK.below (B := s) (fun k hk => by omega) (by omega)))
        clear hm hV0 his0 hq hI hnr hK hvals
        rcases hE1 with ⟨p1, q1, r1, hV1, hS1⟩ | ⟨hV1, hS1⟩
        · have HV1 := Lib.hid hV1
          have HS1 := Lib.hid hS1
          clear hV1 hS1
          rcases hE2 with ⟨p2, q2, r2, hV2, hS2⟩ | ⟨hV2, hS2⟩
          · have HV2 := Lib.hid hV2
            have HS2 := Lib.hid hS2
            clear hV2 hS2
            go_wp2_with fail
            rw [← Hm.out]
            refine (at_any b M n 100 x y z g (101 + (m : Int)) wr HQ.out HN.out (by omega) (by omega) (by omega) (by omega) (inV p1 q1 r1) true HV1.out HS1.out).mono ?_
            unfold inV
            rintro e w2 ⟨rfl, hA⟩
            have hb := hA.trans ((below_alloc w2 (Obj.cells #[.int .i8 p1, .int .i8 q1, .int .u8 r1] 24)).mono hA.size)
            replace HQ := Lib.hid (HQ.out.below hb)
            replace HI := Lib.hid (HI.out.below hb)
            replace HB := Lib.hid (HB.out.trans (hb.mono (by have := HB.out.size; have := HI.out.lt; have := hA.size; have := HS.out; omega)))
            have HX0 := Lib.hid (inAt_new w2 p1 q1 r1)
            clear hb hA
            go_wp2_with fail
            generalize w2.alloc (Obj.cells #[.int .i8 p1, .int .i8 q1, .int .u8 r1] 24) = y2 at HQ HI HB  HX0  ⊢
            obtain ⟨t0, ht⟩ : ∃ t, w2.heap.size = t := ⟨_, rfl⟩
            rw [ht] at HX0 ⊢
            clear ht
            refine (at_any b M n 100 x y z g (101 + (m : Int) - 1) y2 HQ.out HN.out (by omega) (by omega) (by omega) (by omega) (inV p0 q0 r0) is0 HV0.out HS0.out).mono ?_
            unfold inV
            rintro e w3 ⟨rfl, hA⟩
            have hb := hA.trans ((below_alloc w3 (Obj.cells #[.int .i8 p0, .int .i8 q0, .int .u8 r0] 24)).mono hA.size)
            replace HQ := Lib.hid (HQ.out.below hb)
            replace HI := Lib.hid (HI.out.below hb)
            replace HB := Lib.hid (HB.out.trans (hb.mono (by have := HB.out.size; have := HI.out.lt; have := hA.size; have := HS.out; omega)))
            replace HX0 := Lib.hid (HX0.out.below hb)
            have HX1 := Lib.hid (inAt_new w3 p0 q0 r0)
            clear hb hA
            go_wp2_with fail
            generalize w3.alloc (Obj.cells #[.int .i8 p0, .int .i8 q0, .int .u8 r0] 24) = y3 at HQ HI HB HX0 HX1  ⊢
            obtain ⟨t1, ht⟩ : ∃ t, w3.heap.size = t := ⟨_, rfl⟩
            rw [ht] at HX1 ⊢
            clear ht
            refine (at_any b M n 100 x y z g 100 y3 HQ.out HN.out (by omega) (by omega) (by omega) (by omega) (inV p2 q2 r2) true HV2.out HS2.out).mono ?_
            unfold inV
            rintro e w4 ⟨rfl, hA⟩
            have hb := hA.trans ((below_alloc w4 (Obj.cells #[.int .i8 p2, .int .i8 q2, .int .u8 r2] 24)).mono hA.size)
            replace HQ := Lib.hid (HQ.out.below hb)
            replace HI := Lib.hid (HI.out.below hb)
            replace HB := Lib.hid (HB.out.trans (hb.mono (by have := HB.out.size; have := HI.out.lt; have := hA.size; have := HS.out; omega)))
            replace HX0 := Lib.hid (HX0.out.below hb)
            replace HX1 := Lib.hid (HX1.out.below hb)
            have HX2 := Lib.hid (inAt_new w4 p2 q2 r2)
            clear hb hA
            go_wp2_with fail
            generalize w4.alloc (Obj.cells #[.int .i8 p2, .int .i8 q2, .int .u8 r2] 24) = y4 at HQ HI HB HX0 HX1 HX2  ⊢
            obtain ⟨t2, ht⟩ : ∃ t, w4.heap.size = t := ⟨_, rfl⟩
            rw [ht] at HX2 ⊢
            clear ht
            refine (told_law _).mono ?_
            rintro e w5 ⟨rfl, hA⟩
            obtain ⟨x0, x1, x2⟩ := HX0.out.below hA
            obtain ⟨x3, x4, x5⟩ := HX1.out.below hA
            obtain ⟨x6, x7, x8⟩ := HX2.out.below hA
            obtain ⟨x9, x10, x11⟩ := HI.out.below hA
            go_wp2_with fail
            go_ret
            exact ⟨rfl, by rw [HS.out]; exact HB.out.trans (hA.mono (by have := HI.out.lt; omega))⟩
          · have HV2 := Lib.hid hV2
            have HS2 := Lib.hid hS2
            clear hV2 hS2
            go_wp2_with fail
            rw [← Hm.out]
            refine (at_any b M n 100 x y z g (101 + (m : Int)) wr HQ.out HN.out (by omega) (by omega) (by omega) (by omega) (inV p1 q1 r1) true HV1.out HS1.out).mono ?_
            unfold inV
            rintro e w2 ⟨rfl, hA⟩
            have hb := hA.trans ((below_alloc w2 (Obj.cells #[.int .i8 p1, .int .i8 q1, .int .u8 r1] 24)).mono hA.size)
            replace HQ := Lib.hid (HQ.out.below hb)
            replace HI := Lib.hid (HI.out.below hb)
            replace HB := Lib.hid (HB.out.trans (hb.mono (by have := HB.out.size; have := HI.out.lt; have := hA.size; have := HS.out; omega)))
            have HX0 := Lib.hid (inAt_new w2 p1 q1 r1)
            clear hb hA
            go_wp2_with fail
            generalize w2.alloc (Obj.cells #[.int .i8 p1, .int .i8 q1, .int .u8 r1] 24) = y2 at HQ HI HB  HX0  ⊢
            obtain ⟨t0, ht⟩ : ∃ t, w2.heap.size = t := ⟨_, rfl⟩
            rw [ht] at HX0 ⊢
            clear ht
            refine (at_any b M n 100 x y z g (101 + (m : Int) - 1) y2 HQ.out HN.out (by omega) (by omega) (by omega) (by omega) (inV p0 q0 r0) is0 HV0.out HS0.out).mono ?_
            unfold inV
            rintro e w3 ⟨rfl, hA⟩
            have hb := hA.trans ((below_alloc w3 (Obj.cells #[.int .i8 p0, .int .i8 q0, .int .u8 r0] 24)).mono hA.size)
            replace HQ := Lib.hid (HQ.out.below hb)
            replace HI := Lib.hid (HI.out.below hb)
            replace HB := Lib.hid (HB.out.trans (hb.mono (by have := HB.out.size; have := HI.out.lt; have := hA.size; have := HS.out; omega)))
            replace HX0 := Lib.hid (HX0.out.below hb)
            have HX1 := Lib.hid (inAt_new w3 p0 q0 r0)
            clear hb hA
            go_wp2_with fail
            generalize w3.alloc (Obj.cells #[.int .i8 p0, .int .i8 q0, .int .u8 r0] 24) = y3 at HQ HI HB HX0 HX1  ⊢
            obtain ⟨t1, ht⟩ : ∃ t, w3.heap.size = t := ⟨_, rfl⟩
            rw [ht] at HX1 ⊢
            clear ht
            refine (at_any b M n 100 x y z g 100 y3 HQ.out HN.out (by omega) (by omega) (by omega) (by omega) (inV x y z) false HV2.out HS2.out).mono ?_
            unfold inV
            rintro e w4 ⟨rfl, hA⟩
            have hb := hA.trans ((below_alloc w4 (Obj.cells #[.int .i8 x, .int .i8 y, .int .u8 z] 24)).mono hA.size)
            replace HQ := Lib.hid (HQ.out.below hb)
            replace HI := Lib.hid (HI.out.below hb)
            replace HB := Lib.hid (HB.out.trans (hb.mono (by have := HB.out.size; have := HI.out.lt; have := hA.size; have := HS.out; omega)))
            replace HX0 := Lib.hid (HX0.out.below hb)
            replace HX1 := Lib.hid (HX1.out.below hb)
            have HX2 := Lib.hid (inAt_new w4 x y z)
            clear hb hA
            go_wp2_with fail
            generalize w4.alloc (Obj.cells #[.int .i8 x, .int .i8 y, .int .u8 z] 24) = y4 at HQ HI HB HX0 HX1 HX2  ⊢
            obtain ⟨t2, ht⟩ : ∃ t, w4.heap.size = t := ⟨_, rfl⟩
            rw [ht] at HX2 ⊢
            clear ht
            refine (told_law _).mono ?_
            rintro e w5 ⟨rfl, hA⟩
            obtain ⟨x0, x1, x2⟩ := HX0.out.below hA
            obtain ⟨x3, x4, x5⟩ := HX1.out.below hA
            obtain ⟨x6, x7, x8⟩ := HX2.out.below hA
            obtain ⟨x9, x10, x11⟩ := HI.out.below hA
            go_wp2_with fail
            go_ret
            exact ⟨rfl, by rw [HS.out]; exact HB.out.trans (hA.mono (by have := HI.out.lt; omega))⟩
        · have HV1 := Lib.hid hV1
          have HS1 := Lib.hid hS1
          clear hV1 hS1
          rcases hE2 with ⟨p2, q2, r2, hV2, hS2⟩ | ⟨hV2, hS2⟩
          · have HV2 := Lib.hid hV2
            have HS2 := Lib.hid hS2
            clear hV2 hS2
            go_wp2_with fail
            rw [← Hm.out]
            refine (at_any b M n 100 x y z g (101 + (m : Int)) wr HQ.out HN.out (by omega) (by omega) (by omega) (by omega) (inV p0 q0 r0) false HV1.out HS1.out).mono ?_
            unfold inV
            rintro e w2 ⟨rfl, hA⟩
            have hb := hA.trans ((below_alloc w2 (Obj.cells #[.int .i8 p0, .int .i8 q0, .int .u8 r0] 24)).mono hA.size)
            replace HQ := Lib.hid (HQ.out.below hb)
            replace HI := Lib.hid (HI.out.below hb)
            replace HB := Lib.hid (HB.out.trans (hb.mono (by have := HB.out.size; have := HI.out.lt; have := hA.size; have := HS.out; omega)))
            have HX0 := Lib.hid (inAt_new w2 p0 q0 r0)
            clear hb hA
            go_wp2_with fail
            generalize w2.alloc (Obj.cells #[.int .i8 p0, .int .i8 q0, .int .u8 r0] 24) = y2 at HQ HI HB  HX0  ⊢
            obtain ⟨t0, ht⟩ : ∃ t, w2.heap.size = t := ⟨_, rfl⟩
            rw [ht] at HX0 ⊢
            clear ht
            refine (at_any b M n 100 x y z g (101 + (m : Int) - 1) y2 HQ.out HN.out (by omega) (by omega) (by omega) (by omega) (inV p0 q0 r0) is0 HV0.out HS0.out).mono ?_
            unfold inV
            rintro e w3 ⟨rfl, hA⟩
            have hb := hA.trans ((below_alloc w3 (Obj.cells #[.int .i8 p0, .int .i8 q0, .int .u8 r0] 24)).mono hA.size)
            replace HQ := Lib.hid (HQ.out.below hb)
            replace HI := Lib.hid (HI.out.below hb)
            replace HB := Lib.hid (HB.out.trans (hb.mono (by have := HB.out.size; have := HI.out.lt; have := hA.size; have := HS.out; omega)))
            replace HX0 := Lib.hid (HX0.out.below hb)
            have HX1 := Lib.hid (inAt_new w3 p0 q0 r0)
            clear hb hA
            go_wp2_with fail
            generalize w3.alloc (Obj.cells #[.int .i8 p0, .int .i8 q0, .int .u8 r0] 24) = y3 at HQ HI HB HX0 HX1  ⊢
            obtain ⟨t1, ht⟩ : ∃ t, w3.heap.size = t := ⟨_, rfl⟩
            rw [ht] at HX1 ⊢
            clear ht
            refine (at_any b M n 100 x y z g 100 y3 HQ.out HN.out (by omega) (by omega) (by omega) (by omega) (inV p2 q2 r2) true HV2.out HS2.out).mono ?_
            unfold inV
            rintro e w4 ⟨rfl, hA⟩
            have hb := hA.trans ((below_alloc w4 (Obj.cells #[.int .i8 p2, .int .i8 q2, .int .u8 r2] 24)).mono hA.size)
            replace HQ := Lib.hid (HQ.out.below hb)
            replace HI := Lib.hid (HI.out.below hb)
            replace HB := Lib.hid (HB.out.trans (hb.mono (by have := HB.out.size; have := HI.out.lt; have := hA.size; have := HS.out; omega)))
            replace HX0 := Lib.hid (HX0.out.below hb)
            replace HX1 := Lib.hid (HX1.out.below hb)
            have HX2 := Lib.hid (inAt_new w4 p2 q2 r2)
            clear hb hA
            go_wp2_with fail
            generalize w4.alloc (Obj.cells #[.int .i8 p2, .int .i8 q2, .int .u8 r2] 24) = y4 at HQ HI HB HX0 HX1 HX2  ⊢
            obtain ⟨t2, ht⟩ : ∃ t, w4.heap.size = t := ⟨_, rfl⟩
            rw [ht] at HX2 ⊢
            clear ht
            refine (told_law _).mono ?_
            rintro e w5 ⟨rfl, hA⟩
            obtain ⟨x0, x1, x2⟩ := HX0.out.below hA
            obtain ⟨x3, x4, x5⟩ := HX1.out.below hA
            obtain ⟨x6, x7, x8⟩ := HX2.out.below hA
            obtain ⟨x9, x10, x11⟩ := HI.out.below hA
            go_wp2_with fail
            go_ret
            exact ⟨rfl, by rw [HS.out]; exact HB.out.trans (hA.mono (by have := HI.out.lt; omega))⟩
          · have HV2 := Lib.hid hV2
            have HS2 := Lib.hid hS2
            clear hV2 hS2
            go_wp2_with fail
            rw [← Hm.out]
            refine (at_any b M n 100 x y z g (101 + (m : Int)) wr HQ.out HN.out (by omega) (by omega) (by omega) (by omega) (inV p0 q0 r0) false HV1.out HS1.out).mono ?_
            unfold inV
            rintro e w2 ⟨rfl, hA⟩
            have hb := hA.trans ((below_alloc w2 (Obj.cells #[.int .i8 p0, .int .i8 q0, .int .u8 r0] 24)).mono hA.size)
            replace HQ := Lib.hid (HQ.out.below hb)
            replace HI := Lib.hid (HI.out.below hb)
            replace HB := Lib.hid (HB.out.trans (hb.mono (by have := HB.out.size; have := HI.out.lt; have := hA.size; have := HS.out; omega)))
            have HX0 := Lib.hid (inAt_new w2 p0 q0 r0)
            clear hb hA
            go_wp2_with fail
            generalize w2.alloc (Obj.cells #[.int .i8 p0, .int .i8 q0, .int .u8 r0] 24) = y2 at HQ HI HB  HX0  ⊢
            obtain ⟨t0, ht⟩ : ∃ t, w2.heap.size = t := ⟨_, rfl⟩
            rw [ht] at HX0 ⊢
            clear ht
            refine (at_any b M n 100 x y z g (101 + (m : Int) - 1) y2 HQ.out HN.out (by omega) (by omega) (by omega) (by omega) (inV p0 q0 r0) is0 HV0.out HS0.out).mono ?_
            unfold inV
            rintro e w3 ⟨rfl, hA⟩
            have hb := hA.trans ((below_alloc w3 (Obj.cells #[.int .i8 p0, .int .i8 q0, .int .u8 r0] 24)).mono hA.size)
            replace HQ := Lib.hid (HQ.out.below hb)
            replace HI := Lib.hid (HI.out.below hb)
            replace HB := Lib.hid (HB.out.trans (hb.mono (by have := HB.out.size; have := HI.out.lt; have := hA.size; have := HS.out; omega)))
            replace HX0 := Lib.hid (HX0.out.below hb)
            have HX1 := Lib.hid (inAt_new w3 p0 q0 r0)
            clear hb hA
            go_wp2_with fail
            generalize w3.alloc (Obj.cells #[.int .i8 p0, .int .i8 q0, .int .u8 r0] 24) = y3 at HQ HI HB HX0 HX1  ⊢
            obtain ⟨t1, ht⟩ : ∃ t, w3.heap.size = t := ⟨_, rfl⟩
            rw [ht] at HX1 ⊢
            clear ht
            refine (at_any b M n 100 x y z g 100 y3 HQ.out HN.out (by omega) (by omega) (by omega) (by omega) (inV x y z) false HV2.out HS2.out).mono ?_
            unfold inV
            rintro e w4 ⟨rfl, hA⟩
            have hb := hA.trans ((below_alloc w4 (Obj.cells #[.int .i8 x, .int .i8 y, .int .u8 z] 24)).mono hA.size)
            replace HQ := Lib.hid (HQ.out.below hb)
            replace HI := Lib.hid (HI.out.below hb)
            replace HB := Lib.hid (HB.out.trans (hb.mono (by have := HB.out.size; have := HI.out.lt; have := hA.size; have := HS.out; omega)))
            replace HX0 := Lib.hid (HX0.out.below hb)
            replace HX1 := Lib.hid (HX1.out.below hb)
            have HX2 := Lib.hid (inAt_new w4 x y z)
            clear hb hA
            go_wp2_with fail
            generalize w4.alloc (Obj.cells #[.int .i8 x, .int .i8 y, .int .u8 z] 24) = y4 at HQ HI HB HX0 HX1 HX2  ⊢
            obtain ⟨t2, ht⟩ : ∃ t, w4.heap.size = t := ⟨_, rfl⟩
            rw [ht] at HX2 ⊢
            clear ht
            refine (told_law _).mono ?_
            rintro e w5 ⟨rfl, hA⟩
            obtain ⟨x0, x1, x2⟩ := HX0.out.below hA
            obtain ⟨x3, x4, x5⟩ := HX1.out.below hA
            obtain ⟨x6, x7, x8⟩ := HX2.out.below hA
            obtain ⟨x9, x10, x11⟩ := HI.out.below hA
            go_wp2_with fail
            go_ret
            exact ⟨rfl, by rw [HS.out]; exact HB.out.trans (hA.mono (by have := HI.out.lt; omega))⟩
end Go.Proofs.Ytabgooglfgioiaa
