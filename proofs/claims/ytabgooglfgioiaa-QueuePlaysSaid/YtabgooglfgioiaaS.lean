/-
  Queue: the contracts of the reference's Known and At.
-/
import Derived.Test.YtabgooglfgioiaaR
namespace Go.Proofs.Ytabgooglfgioiaa
set_option linter.unusedVariables false
open Go.ChangeShapes Go.WideShapes Go.ChangeAt Go.RowKit

theorem rknown_any (c : Nat) (f x y z : Int) (hs : Nat → Bool) (X Y Z : Nat → Int) (w : World) (h : RAt w c f x y z hs X Y Z) (N : Nat) (hN : N ≤ 64) (h1 : ∀ j, j < N → hs j = true) (h2 : N < 64 → hs N = false) :
    Calls Try.prog 18 #[.pointer (some ⟨c, 0, none⟩)] w fun e w' => e = .returned (.int .i64 N) ∧ w = w' := by
  have H1 := Lib.hid h1
  have H2 := Lib.hid h2
  clear h1 h2
  go_enter Try.func18, Try.ntmps18
  go_wp2
  go_loop [3] (fun s3 => ∃ m : Nat, m ≤ N ∧ s3 = .int .i64 m) (fun s3 => N - (intOf s3).toNat)
  case atStart => exact ⟨0, by omega, rfl⟩
  case round =>
    obtain ⟨m, hm, rfl⟩ := hrel
    by_cases hlt : m < N
    · have cm := h.has.cell m (by omega)
      rw [H1.out m hlt] at cm
      go_wp2
      all_goals first | exact ⟨⟨m + 1, by omega, by go_num⟩, by simp [intOf]; omega⟩ | go_round
    · obtain rfl : m = N := by omega
      by_cases h64 : m < 64
      · have cm := h.has.cell m h64
        rw [H2.out h64] at cm
        go_wp2
        go_ret
        exact ⟨rfl, rfl⟩
      · obtain rfl : m = 64 := by omega
        go_wp2
        go_ret
        exact ⟨rfl, rfl⟩

def hO (hs : Nat → Bool) (X Y Z : Nat → Int) : Nat → Option Value := fun j => if hs j then some (inV (X j) (Y j) (Z j)) else none

set_option maxHeartbeats 1000000 in
theorem rat_1 (c : Nat) (f x y z : Int) (hs : Nat → Bool) (X Y Z : Nat → Int) (fr : Int) (w : World) (h : RAt w c f x y z hs X Y Z) (hf : fr < f) :
    Calls Try.prog 17 #[.pointer (some ⟨c, 0, none⟩), .int .i64 fr] w fun e w' => e = .returned (.tuple #[inV x y z, .bool false]) ∧ Below w.heap.size w w' := by
  obtain ⟨c0, c1, c2, c3, -, -, -, -, -, -⟩ := h
  have hb := cell_lt c0
  have hd : decide (f ≤ fr) = false := decide_eq_false (by omega)
  unfold inV
  go_enter Try.func17, Try.ntmps17
  go_wp2
  refine wp_loop_rounds 1 ?_
  rw [rounds_succ]
  go_wp2
  refine bodyPost_ret (v := .tuple #[.agg #[.int .i8 x, .int .i8 y, .int .u8 z], .bool false]) (by simp [results, Try.results17, go_sem]) rfl ⟨rfl, ?_⟩
  (repeat (first | exact Below.refl _ _ | refine Below.alloc ?_ (by simp) _ | refine Below.setCell ?_ (by simp) _))

structure AR (w wr : World) (B : Nat) (hs : Nat → Bool) (X Y Z : Nat → Int) (d i : Nat) (L : Value) (s7 : Value) : Prop where
  ex : ∃ p q r, wr.cell? ⟨B, 0, none⟩ = some (.int .i8 p) ∧ wr.cell? ⟨B, 1, none⟩ = some (.int .i8 q) ∧ wr.cell? ⟨B, 2, none⟩ = some (.int .u8 r) ∧ wr.frozen? ⟨B, 0, none⟩ = false ∧ wr.frozen? ⟨B, 1, none⟩ = false ∧ wr.frozen? ⟨B, 2, none⟩ = false ∧ back (hO hs X Y Z) (min i (d + 1)) L = inV p q r
  s7 : s7 = .bool (decide (d < i) && hs d)
  kept : Kept (fun b => b = B) w wr

set_option maxHeartbeats 4000000 in
theorem rat_2 (c : Nat) (f x y z : Int) (hs : Nat → Bool) (X Y Z : Nat → Int) (d : Nat) (w : World) (h : RAt w c f x y z hs X Y Z) (f0 : 0 ≤ f) (f1 : f ≤ 1000000) (h1 : f + (d : Int) ≤ 9223372036854775807) :
    Calls Try.prog 17 #[.pointer (some ⟨c, 0, none⟩), .int .i64 (f + (d : Int))] w fun e w' => e = .returned (.tuple #[back (hO hs X Y Z) (min 64 (d + 1)) (inV x y z), .bool (decide (d < 64) && hs d)]) ∧ Below w.heap.size w w' := by
  have H := Lib.hid h
  obtain ⟨c0, c1, c2, c3, -, -, -, -, -, -⟩ := h
  have hb := cell_lt c0
  have hd : decide (f ≤ f + (d : Int)) = true := decide_eq_true (by omega)
  have e1 : IntKind.u64.wrap (f + (d : Int)) = f + d := by simp [IntKind.wrap, IntKind.bits, IntKind.signed]; omega
  have e2 : IntKind.u64.wrap f = f := by simp [IntKind.wrap, IntKind.bits, IntKind.signed]; omega
  have e3 : IntKind.u64.wrap (d : Int) = d := by simp [IntKind.wrap, IntKind.bits, IntKind.signed]; omega
  have e0 : f + (d : Int) - f = d := by omega
  go_enter Try.func17, Try.ntmps17
  go_wp2
  have hB0 : Below w.heap.size w ((w.alloc (Obj.cells #[.int .i8 0, .int .i8 0, .int .u8 0] 24)).alloc (Obj.cells #[.int .i8 x, .int .i8 y, .int .u8 z] 24)) := ((Below.refl _ _).alloc (Nat.le_refl _) _).alloc (by simp) _
  obtain ⟨t0, t1, t2⟩ : InAt ((w.alloc (Obj.cells #[.int .i8 0, .int .i8 0, .int .u8 0] 24)).alloc (Obj.cells #[.int .i8 x, .int .i8 y, .int .u8 z] 24)) w.heap.size 0 0 0 := (inAt_new w 0 0 0).below (below_alloc _ _)
  obtain ⟨v0, v1, v2⟩ : InAt ((w.alloc (Obj.cells #[.int .i8 0, .int .i8 0, .int .u8 0] 24)).alloc (Obj.cells #[.int .i8 x, .int .i8 y, .int .u8 z] 24)) (w.heap.size + 1) x y z := by
    have := inAt_new (w.alloc (Obj.cells #[.int .i8 0, .int .i8 0, .int .u8 0] 24)) x y z
    rwa [size_alloc] at this
  obtain ⟨u0, u1, u2⟩ : ((w.alloc (Obj.cells #[.int .i8 0, .int .i8 0, .int .u8 0] 24)).alloc (Obj.cells #[.int .i8 x, .int .i8 y, .int .u8 z] 24)).frozen? ⟨w.heap.size, 0, none⟩ = false ∧ ((w.alloc (Obj.cells #[.int .i8 0, .int .i8 0, .int .u8 0] 24)).alloc (Obj.cells #[.int .i8 x, .int .i8 y, .int .u8 z] 24)).frozen? ⟨w.heap.size, 1, none⟩ = false ∧ ((w.alloc (Obj.cells #[.int .i8 0, .int .i8 0, .int .u8 0] 24)).alloc (Obj.cells #[.int .i8 x, .int .i8 y, .int .u8 z] 24)).frozen? ⟨w.heap.size, 2, none⟩ = false := by refine ⟨?_, ?_, ?_⟩ <;> go_simp
  obtain ⟨n0, n1, n2⟩ : ((w.alloc (Obj.cells #[.int .i8 0, .int .i8 0, .int .u8 0] 24)).alloc (Obj.cells #[.int .i8 x, .int .i8 y, .int .u8 z] 24)).frozen? ⟨w.heap.size + 1, 0, none⟩ = false ∧ ((w.alloc (Obj.cells #[.int .i8 0, .int .i8 0, .int .u8 0] 24)).alloc (Obj.cells #[.int .i8 x, .int .i8 y, .int .u8 z] 24)).frozen? ⟨w.heap.size + 1, 1, none⟩ = false ∧ ((w.alloc (Obj.cells #[.int .i8 0, .int .i8 0, .int .u8 0] 24)).alloc (Obj.cells #[.int .i8 x, .int .i8 y, .int .u8 z] 24)).frozen? ⟨w.heap.size + 1, 2, none⟩ = false := by refine ⟨?_, ?_, ?_⟩ <;> go_simp
  have hsz : ((w.alloc (Obj.cells #[.int .i8 0, .int .i8 0, .int .u8 0] 24)).alloc (Obj.cells #[.int .i8 x, .int .i8 y, .int .u8 z] 24)).heap.size = w.heap.size + 2 := by simp
  have HR := Lib.hid (H.out.block (hB0.block c hb))
  generalize ((w.alloc (Obj.cells #[.int .i8 0, .int .i8 0, .int .u8 0] 24)).alloc (Obj.cells #[.int .i8 x, .int .i8 y, .int .u8 z] 24)) = w2 at hB0 t0 t1 t2 v0 v1 v2 u0 u1 u2 n0 n1 n2 hsz HR ⊢
  obtain ⟨s, hs'⟩ : ∃ s, s = w.heap.size := ⟨_, rfl⟩
  rw [← hs'] at hB0 t0 t1 t2 v0 v1 v2 u0 u1 u2 n0 n1 n2 hsz hb ⊢
  have HS := Lib.hid hs'
  have HB0 := Lib.hid hB0
  have HT := Lib.hid (And.intro t0 (And.intro t1 (And.intro t2 (And.intro u0 (And.intro u1 u2)))))
  have hA : AR w2 w2 (s + 1) hs X Y Z d 0 (inV x y z) (.bool false) := ⟨⟨x, y, z, v0, v1, v2, n0, n1, n2, by simp [back]⟩, by simp, Kept.refl _ _⟩
  have HA := Lib.hid hA
  clear hA hs' hB0 t0 t1 t2 v0 v1 v2 u0 u1 u2 n0 n1 n2 c0 c1 c2 c3 H
  go_loopw [7, 8] (fun s7 s8 wr => ∃ i : Nat, i ≤ 64 ∧ s8 = .int .i64 i ∧ AR w2 wr (s + 1) hs X Y Z d i (inV x y z) s7) (fun _ s8 _ => 64 - (intOf s8).toNat)
  case atStart => exact ⟨0, by omega, rfl, HA.out⟩
  case round =>
    clear HA
    obtain ⟨i, hi, rfl, ⟨p, q, r, p0, p1, p2, p3, p4, p5, hbk⟩, rfl, hK⟩ := hrel
    obtain ⟨kb, hkb⟩ : ∃ kb, kb = (decide (d < i) && hs d) := ⟨_, rfl⟩
    rw [← hkb]
    have hR := HR.out.block (hK.block c HR.out.lt (by omega))
    have c0 := hR.c0
    by_cases hlt : i < 64
    · have m0 := hR.has.cell i hlt
      have m1 := hR.ins.x i hlt
      have m2 := hR.ins.y i hlt
      have m3 := hR.ins.z i hlt
      have hil : (i : Int) < 64 := by omega
      have hi0 : (0 : Int) ≤ i := by omega
      have e5 : IntKind.u64.wrap (i : Int) = i := by simp [IntKind.wrap, IntKind.bits, IntKind.signed]; omega
      have HBK := Lib.hid hbk
      have HKB := Lib.hid hkb
      have HK := Lib.hid hK
      clear hbk hkb hK hR
      cases hsi : hs i with
      | false =>
        have hr : AR w2 wr (s + 1) hs X Y Z d (i + 1) (inV x y z) (.bool kb) := by
          refine ⟨⟨p, q, r, p0, p1, p2, p3, p4, p5, ?_⟩, ?_, HK.out⟩
          · rw [← HBK.out]
            by_cases h : i ≤ d
            · rw [show min (i + 1) (d + 1) = i + 1 from by omega, show min i (d + 1) = i from by omega]
              simp [back, hO, hsi]
            · rw [show min (i + 1) (d + 1) = d + 1 from by omega, show min i (d + 1) = d + 1 from by omega]
          · rw [HKB.out]
            congr 1
            by_cases h : i = d
            · subst h; simp [hsi]
            · rw [show decide (d < i + 1) = decide (d < i) from by simp; omega]
        have HR2 := Lib.hid hr
        rw [hsi] at m0
        clear hr hsi
        go_wp2
        go_roundw
        case rel => exact ⟨i + 1, by omega, by go_num, HR2.out⟩
        case measure => simp [intOf]; omega
      | true =>
        rw [hsi] at m0
        by_cases hid : i ≤ d
        · have d1 : decide ((i : Int) ≤ (d : Int)) = true := decide_eq_true (by omega)
          obtain ⟨bd, hbd⟩ : ∃ bd, ((d : Int) == (i : Int)) = bd := ⟨_, rfl⟩
          have hr : AR w2 ((((wr.setCell ⟨s + 1, 0, none⟩ (.int .i8 (X i))).setCell ⟨s + 1, 1, none⟩ (.int .i8 (Y i))).setCell ⟨s + 1, 2, none⟩ (.int .u8 (Z i)))) (s + 1) hs X Y Z d (i + 1) (inV x y z) (.bool bd) := by
            refine ⟨⟨X i, Y i, Z i, by go_simp, by go_simp, by go_simp, by go_simp, by go_simp, by go_simp, ?_⟩, ?_, ?_⟩
            · rw [show min (i + 1) (d + 1) = i + 1 from by omega]
              simp [back, hO, hsi]
            · rw [← hbd]
              congr 1
              by_cases h : d = i
              · subst h; simp [hsi]
              · have h2 : ¬ d < i + 1 := by omega
                have h3 : ((d : Int) == (i : Int)) = false := by simp; omega
                simp [h2, h3]
            · have hK := HK.out
              repeat (first | exact hK | refine Kept.setSelf ?_ _)
          have HR2 := Lib.hid hr
          clear hr hsi
          go_wp2
          go_roundw
          case rel => exact ⟨i + 1, by omega, by go_num, HR2.out⟩
          case measure => simp [intOf]; omega
        · have d1 : decide ((i : Int) ≤ (d : Int)) = false := decide_eq_false (by omega)
          have hr : AR w2 wr (s + 1) hs X Y Z d (i + 1) (inV x y z) (.bool kb) := by
            refine ⟨⟨p, q, r, p0, p1, p2, p3, p4, p5, ?_⟩, ?_, HK.out⟩
            · rw [← HBK.out]
              rw [show min (i + 1) (d + 1) = d + 1 from by omega, show min i (d + 1) = d + 1 from by omega]
            · rw [HKB.out]
              congr 1
              rw [show decide (d < i + 1) = decide (d < i) from by simp; omega]
          have HR2 := Lib.hid hr
          clear hr hsi
          go_wp2
          go_roundw
          case rel => exact ⟨i + 1, by omega, by go_num, HR2.out⟩
          case measure => simp [intOf]; omega
    · obtain rfl : i = 64 := by omega
      obtain ⟨t0, t1, t2, u0, u1, u2⟩ := HT.out
      have hs2 := cell_lt t0
      replace t0 := (hK.cell (p := ⟨s, 0, none⟩) (by simp) hs2).trans t0
      replace t1 := (hK.cell (p := ⟨s, 1, none⟩) (by simp) hs2).trans t1
      replace t2 := (hK.cell (p := ⟨s, 2, none⟩) (by simp) hs2).trans t2
      replace u0 := (hK.frozen (p := ⟨s, 0, none⟩) (by simp) hs2).trans u0
      replace u1 := (hK.frozen (p := ⟨s, 1, none⟩) (by simp) hs2).trans u1
      replace u2 := (hK.frozen (p := ⟨s, 2, none⟩) (by simp) hs2).trans u2
      have hbel : Below s w wr := HB0.out.trans (hK.below (B := s) (fun k hk => by omega) (by omega))
      have HBK := Lib.hid hbk
      have HKB := Lib.hid hkb
      clear hbk hkb hK hR
      go_wp2
      refine bodyPost_ret (v := .tuple #[.agg #[.int .i8 p, .int .i8 q, .int .u8 r], .bool kb]) (by simp [results, Try.results17, go_sem, t0, t1, t2]) rfl ⟨by rw [HBK.out, ← HKB.out]; rfl, ?_⟩
      rw [← HS.out]
      (repeat (first | exact hbel | refine Below.drew ?_ | refine Below.alloc ?_ (by simp; omega) _ | refine Below.setCell ?_ (by simp) _))
end Go.Proofs.Ytabgooglfgioiaa
