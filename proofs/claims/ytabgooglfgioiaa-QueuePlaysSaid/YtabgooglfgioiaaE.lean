/-
  Queue: the contract of At.
-/
import Derived.Test.YtabgooglfgioiaaD
namespace Go.Proofs.Ytabgooglfgioiaa
set_option linter.unusedVariables false
open Go.ChangeShapes Go.WideShapes Go.ChangeAt Go.RowKit

/-- The latest of the first k that is known; d, if none is. -/
def back (h : Nat → Option Value) : Nat → Value → Value
  | 0, d => d
  | k + 1, d => (h k).getD (back h k d)
def atV (g : Int → Option Value) (f : Int) (d : Value) (fr : Int) : Value := back (fun j => g (f + j)) (min 64 (fr - f + 1).toNat) d
/-- Nothing is known but of 64 frames. -/
def Near (g : Int → Option Value) (f : Int) : Prop := ∀ k, (g k).isSome = true → f ≤ k ∧ k ≤ f + 63

theorem atV_some {g : Int → Option Value} {f : Int} {d : Value} {fr : Int} {v : Value} (hN : Near g f) (h : g fr = some v) : atV g f d fr = v := by
  have := hN fr (by rw [h]; rfl)
  obtain ⟨j, hj⟩ : ∃ j : Nat, fr = f + j := ⟨(fr - f).toNat, by omega⟩
  subst hj
  unfold atV
  rw [show min 64 (f + (j : Int) - f + 1).toNat = j + 1 from by omega]
  simp [back, h]
theorem atV_low {g : Int → Option Value} {f : Int} {d : Value} {fr : Int} (h : fr < f) : atV g f d fr = d := by
  unfold atV
  rw [show min 64 (fr - f + 1).toNat = 0 from by omega]
  rfl
theorem back_in {h : Nat → Option Value} (hv : ∀ j v, h j = some v → ∃ i j l, v = inV i j l) : ∀ k (x y z : Int), ∃ i j l, back h k (inV x y z) = inV i j l
  | 0, x, y, z => ⟨x, y, z, rfl⟩
  | k + 1, x, y, z => by
    unfold back
    cases e : h k with
    | none => exact back_in hv k x y z
    | some v => obtain ⟨i, j, l, hv'⟩ := hv k v e; exact ⟨i, j, l, hv'⟩

set_option maxHeartbeats 1000000 in
theorem at_1 (b M n : Nat) (f x y z : Int) (g : Int → Option Value) (fr : Int) (w : World) (h : QAt w b M n f x y z g) (hN : Near g f) (h0 : -9223372036854775808 ≤ fr) (h1 : fr ≤ 9223372036854775807) (v : Value) (hg : g fr = some v) :
    Calls Try.prog 9 #[.pointer (some ⟨b, 0, none⟩), .int .i64 fr] w fun e w' => e = .returned (.tuple #[atV g f (inV x y z) fr, .bool true]) ∧ Below w.heap.size w w' := by
  rw [atV_some hN hg]
  obtain ⟨i, j, l, rfl⟩ := h.vals fr v hg
  have c0 := h.c0
  have c4 := h.c4
  have hb := cell_lt c0
  have hM := h.map.lt
  have hl := h.map.looks (wf64_of h0 h1)
  rw [hg] at hl
  unfold inV at hl ⊢
  simp only [Option.getD_some, Option.isSome_some] at hl
  clear h hN hg
  go_enter Try.func9, Try.ntmps9
  go_wp2_with (at_lookup; refine wpList_lookup_looks rfl _ _ rfl M fr _ _ hl (((Kept.refl (fun _ => False) w).alloc _).block M hM (by simp)) rfl rfl ?_)
  refine bodyPost_ret (v := .tuple #[.agg #[.int .i8 i, .int .i8 j, .int .u8 l], .bool true]) (by simp [results, Try.results9, go_sem]) rfl ⟨rfl, ?_⟩
  (repeat (first | exact Below.refl _ _ | refine Below.alloc ?_ (by simp) _ | refine Below.setCell ?_ (by simp) _))
set_option maxHeartbeats 1000000 in
theorem at_2 (b M n : Nat) (f x y z : Int) (g : Int → Option Value) (fr : Int) (w : World) (h : QAt w b M n f x y z g) (h0 : -9223372036854775808 ≤ fr) (h1 : fr ≤ 9223372036854775807) (hg : g fr = none) (hf : fr < f) :
    Calls Try.prog 9 #[.pointer (some ⟨b, 0, none⟩), .int .i64 fr] w fun e w' => e = .returned (.tuple #[atV g f (inV x y z) fr, .bool false]) ∧ Below w.heap.size w w' := by
  rw [atV_low hf]
  obtain ⟨c0, c1, c2, c3, c4, -, -, -, -, -, hm, -, -⟩ := h
  have hb := cell_lt c0
  have hM := hm.lt
  have hl := hm.looks (wf64_of h0 h1)
  rw [hg] at hl
  unfold inV at ⊢
  simp only [Option.getD_none, Option.isSome_none] at hl
  clear hg hm
  go_enter Try.func9, Try.ntmps9
  go_wp2_with (at_lookup; refine wpList_lookup_looks rfl _ _ rfl M fr _ _ hl (((Kept.refl (fun _ => False) w).alloc _).block M hM (by simp)) rfl rfl ?_)
  refine bodyPost_ret (v := .tuple #[.agg #[.int .i8 x, .int .i8 y, .int .u8 z], .bool false]) (by simp [results, Try.results9, go_sem]) rfl ⟨rfl, ?_⟩
  (repeat (first | exact Below.refl _ _ | refine Below.alloc ?_ (by simp) _ | refine Below.setCell ?_ (by simp) _))

def AtRel (w1 : World) (h : Nat → Option Value) (n0 : Nat) (d : Value) (s8 : Value) (wr : World) : Prop :=
  ∃ m : Nat, m ≤ n0 ∧ s8 = .int .i64 ((m : Int) - 1) ∧ back h m d = back h n0 d ∧ Kept (fun _ => False) w1 wr

set_option maxHeartbeats 4000000 in
theorem at_3 (b M n : Nat) (f x y z : Int) (g : Int → Option Value) (fr : Int) (w : World) (h : QAt w b M n f x y z g) (f0 : 0 ≤ f) (f1 : f ≤ 1000000) (h0 : -9223372036854775808 ≤ fr) (h1 : fr ≤ 9223372036854775807) (hg : g fr = none) (hf : f ≤ fr) :
    Calls Try.prog 9 #[.pointer (some ⟨b, 0, none⟩), .int .i64 fr] w fun e w' => e = .returned (.tuple #[atV g f (inV x y z) fr, .bool false]) ∧ Below w.heap.size w w' := by
  have hvals : ∀ (j : Nat) v, g (f + j) = some v → ∃ i j l, v = inV i j l := fun j v hv => h.vals _ v hv
  have H := Lib.hid h
  have HV := Lib.hid hvals
  obtain ⟨c0, c1, c2, c3, c4, -, -, -, -, -, hm, -, -⟩ := h
  have hb := cell_lt c0
  have hM := hm.lt
  have hl := hm.looks (wf64_of h0 h1)
  rw [hg] at hl
  simp only [Option.getD_none, Option.isSome_none] at hl
  clear hg hm hvals
  have hd : decide (fr < f) = false := by simp; omega
  unfold atV
  by_cases hn : nearB f fr = true
  · have hn0 : min 64 (fr - f + 1).toNat = (fr - f).toNat + 1 := by unfold nearB at hn; simp at hn; omega
    have hn1 : fr - f ≤ 63 := by unfold nearB at hn; simp at hn; omega
    obtain ⟨m0, hm0⟩ : ∃ m0 : Nat, (m0 : Int) = fr - f := ⟨(fr - f).toNat, by omega⟩
    rw [hn0, show (fr - f).toNat = m0 from by omega]
    have Hm0 := Lib.hid hm0
    have hm1 : m0 ≤ 63 := by omega
    clear hn0 hm0
    go_enter Try.func9, Try.ntmps9
    go_wp2_with (first | (at_lookup; refine wpList_lookup_looks rfl _ _ rfl M fr _ _ hl (((Kept.refl (fun _ => False) w).alloc _).block M hM (by simp)) rfl rfl ?_) | (go_at_call 19; refine (near_any b f fr _ (by go_simp) f0 f1 h0 h1).mono ?_; rintro e w' ⟨rfl, rfl⟩; rw [hn]))
    have hk1 := (Kept.refl (fun _ => False) w).alloc (Obj.cells #[.int .i8 0, .int .i8 0, .int .u8 0] 24)
    have t0 : (w.alloc (Obj.cells #[.int .i8 0, .int .i8 0, .int .u8 0] 24)).cell? ⟨w.heap.size, 0, none⟩ = some (.int .i8 0) := by go_simp
    have t1 : (w.alloc (Obj.cells #[.int .i8 0, .int .i8 0, .int .u8 0] 24)).cell? ⟨w.heap.size, 1, none⟩ = some (.int .i8 0) := by go_simp
    have t2 : (w.alloc (Obj.cells #[.int .i8 0, .int .i8 0, .int .u8 0] 24)).cell? ⟨w.heap.size, 2, none⟩ = some (.int .u8 0) := by go_simp
    have e0 : (w.alloc (Obj.cells #[.int .i8 0, .int .i8 0, .int .u8 0] 24)).frozen? ⟨w.heap.size, 0, none⟩ = false := by go_simp
    have e1 : (w.alloc (Obj.cells #[.int .i8 0, .int .i8 0, .int .u8 0] 24)).frozen? ⟨w.heap.size, 1, none⟩ = false := by go_simp
    have e2 : (w.alloc (Obj.cells #[.int .i8 0, .int .i8 0, .int .u8 0] 24)).frozen? ⟨w.heap.size, 2, none⟩ = false := by go_simp
    generalize w.alloc (Obj.cells #[.int .i8 0, .int .i8 0, .int .u8 0] 24) = w1 at hk1 t0 t1 t2 e0 e1 e2 ⊢
    have hk2 := (Kept.refl (fun _ => False) w1).alloc (Obj.cells #[.int .i8 0, .int .i8 0, .int .u8 0] 24)
    generalize w1.alloc (Obj.cells #[.int .i8 0, .int .i8 0, .int .u8 0] 24) = w2 at hk2 ⊢
    obtain ⟨B, hB⟩ : ∃ B, B = w.heap.size := ⟨_, rfl⟩
    rw [← hB] at t0 t1 t2 e0 e1 e2 hb hM ⊢
    have hBs := cell_lt t0
    have HB := Lib.hid hB
    clear hB c0 c1 c2 c3 c4 hl
    go_loopw [8] (fun s8 wr => AtRel w1 (fun j => g (f + j)) (m0 + 1) (inV x y z) s8 wr) (fun s8 _ => (intOf s8 + 1).toNat)
    case atStart => exact ⟨m0 + 1, by omega, by rw [← Hm0.out]; congr 1; omega, rfl, hk2⟩
    case round =>
      clear hk2
      obtain ⟨m, hm, rfl, hbk, hK⟩ := hrel
      have hq := (H.out.kept hk1 (by simp) (by simp)).kept hK (by simp) (by simp)
      have u0 := (hK.cell (p := ⟨B, 0, none⟩) (by simp) hBs).trans t0
      have u1 := (hK.cell (p := ⟨B, 1, none⟩) (by simp) hBs).trans t1
      have u2 := (hK.cell (p := ⟨B, 2, none⟩) (by simp) hBs).trans t2
      have v0 := (hK.frozen (p := ⟨B, 0, none⟩) (by simp) hBs).trans e0
      have v1 := (hK.frozen (p := ⟨B, 1, none⟩) (by simp) hBs).trans e1
      have v2 := (hK.frozen (p := ⟨B, 2, none⟩) (by simp) hBs).trans e2
      have hbel : Below B w wr := by rw [HB.out]; exact (hk1.trans hK).below (fun _ h => h.elim) (Nat.le_refl _)
      obtain ⟨d0, d1, d2, d3, d4, -, -, -, -, -, hmp, -, -⟩ := hq
      have hBs2 := cell_lt u0
      clear t0 t1 t2 e0 e1 e2 hk1
      cases m with
      | zero =>
        rw [show (((0 : Nat) : Int) - 1) = -1 from rfl]
        have HB2 := Lib.hid hbk
        have HK := Lib.hid hK
        have hbs := cell_lt d0
        clear hbk hmp hK
        go_wp2
        refine bodyPost_ret (v := .tuple #[.agg #[.int .i8 x, .int .i8 y, .int .u8 z], .bool false]) (by simp [results, Try.results9, go_sem, u0, u1, u2]) rfl ⟨by rw [← HB2.out]; rfl, ?_⟩
        rw [← HB.out]
        (repeat (first | exact hbel | refine Below.alloc ?_ (by simp; omega) _ | refine Below.setCell ?_ (by simp) _))
      | succ k =>
        rw [show (((k + 1 : Nat) : Int) - 1) = (k : Int) from by omega]
        have hl := hmp.looks (x := f + (k : Int)) (wf64_of (by omega) (by omega))
        have hmM := hmp.lt
        have hbs := cell_lt d0
        have HB2 := Lib.hid hbk
        have hrel2 : ∀ W : World, Kept (fun _ => False) wr W → g (f + (k : Int)) = none → AtRel w1 (fun j => g (f + j)) (m0 + 1) (inV x y z) (.int .i64 ((k : Int) - 1)) W := fun W hW hnone =>
          ⟨k, by omega, rfl, by rw [← HB2.out]; simp [back, hnone], hK.trans hW⟩
        have HR2 := Lib.hid hrel2
        have hbk2 : ∀ v, g (f + (k : Int)) = some v → back (fun j => g (f + j)) (m0 + 1) (inV x y z) = v := fun v hv => by rw [← HB2.out]; simp [back, hv]
        have HBK := Lib.hid hbk2
        clear hrel2 hbk2 hmp hbk hK
        cases hgk : g (f + (k : Int)) with
        | none =>
          rw [hgk] at hl
          have hl1 := hl wr.drew rfl
          have hl2 := hl (wr.alloc (Obj.cells #[.int .i8 0, .int .i8 0, .int .u8 0] 24)).drew (Below.heap_alloc _ _ _ hmM)
          simp only [Option.getD_none, Option.isSome_none] at hl1 hl2
          have hr := HR2.out (wr.alloc (Obj.cells #[.int .i8 0, .int .i8 0, .int .u8 0] 24)).drew ((Kept.refl _ _).alloc _ |>.drew) hgk
          have HR := Lib.hid hr
          clear hl hr hgk hbel
          go_wp2
          go_region
          all_goals go_wp2
          all_goals first | exact ⟨HR.out, by simp [intOf]⟩ | go_roundw
        | some v =>
          obtain ⟨i, j, l, rfl⟩ := HV.out k v hgk
          have HB3 := Lib.hid (HBK.out _ hgk)
          rw [hgk] at hl
          have hl1 := hl wr.drew rfl
          have hl2 := hl (wr.alloc (Obj.cells #[.int .i8 0, .int .i8 0, .int .u8 0] 24)).drew (Below.heap_alloc _ _ _ hmM)
          unfold inV at hl1 hl2
          simp only [Option.getD_some, Option.isSome_some] at hl1 hl2
          clear hl hgk
          go_wp2
          go_region
          all_goals go_wp2
          all_goals refine bodyPost_ret (v := .tuple #[.agg #[.int .i8 i, .int .i8 j, .int .u8 l], .bool false]) (by simp [results, Try.results9, go_sem, u0, u1, u2, hBs2]) rfl ⟨by rw [HB3.out]; rfl, ?_⟩
          all_goals rw [← HB.out]
          all_goals (repeat (first | exact hbel | refine Below.drew ?_ | refine Below.alloc ?_ (by simp; omega) _ | refine Below.setCell ?_ (by simp; try omega) _))
  · have hn' : nearB f fr = false := by simpa using hn
    have hn0 : min 64 (fr - f + 1).toNat = 63 + 1 := by unfold nearB at hn'; simp at hn'; omega
    rw [hn0]
    obtain ⟨m0, hm0⟩ : ∃ m0 : Nat, m0 = 63 := ⟨63, rfl⟩
    rw [← hm0]
    have Hm0 := Lib.hid hm0
    have hm1 : m0 ≤ 63 := by omega
    clear hn0 hm0 hn
    go_enter Try.func9, Try.ntmps9
    go_wp2_with (first | (at_lookup; refine wpList_lookup_looks rfl _ _ rfl M fr _ _ hl (((Kept.refl (fun _ => False) w).alloc _).block M hM (by simp)) rfl rfl ?_) | (go_at_call 19; refine (near_any b f fr _ (by go_simp) f0 f1 h0 h1).mono ?_; rintro e w' ⟨rfl, rfl⟩; rw [hn']))
    have hk1 := (Kept.refl (fun _ => False) w).alloc (Obj.cells #[.int .i8 0, .int .i8 0, .int .u8 0] 24)
    have t0 : (w.alloc (Obj.cells #[.int .i8 0, .int .i8 0, .int .u8 0] 24)).cell? ⟨w.heap.size, 0, none⟩ = some (.int .i8 0) := by go_simp
    have t1 : (w.alloc (Obj.cells #[.int .i8 0, .int .i8 0, .int .u8 0] 24)).cell? ⟨w.heap.size, 1, none⟩ = some (.int .i8 0) := by go_simp
    have t2 : (w.alloc (Obj.cells #[.int .i8 0, .int .i8 0, .int .u8 0] 24)).cell? ⟨w.heap.size, 2, none⟩ = some (.int .u8 0) := by go_simp
    have e0 : (w.alloc (Obj.cells #[.int .i8 0, .int .i8 0, .int .u8 0] 24)).frozen? ⟨w.heap.size, 0, none⟩ = false := by go_simp
    have e1 : (w.alloc (Obj.cells #[.int .i8 0, .int .i8 0, .int .u8 0] 24)).frozen? ⟨w.heap.size, 1, none⟩ = false := by go_simp
    have e2 : (w.alloc (Obj.cells #[.int .i8 0, .int .i8 0, .int .u8 0] 24)).frozen? ⟨w.heap.size, 2, none⟩ = false := by go_simp
    generalize w.alloc (Obj.cells #[.int .i8 0, .int .i8 0, .int .u8 0] 24) = w1 at hk1 t0 t1 t2 e0 e1 e2 ⊢
    have hk2 := (Kept.refl (fun _ => False) w1).alloc (Obj.cells #[.int .i8 0, .int .i8 0, .int .u8 0] 24)
    generalize w1.alloc (Obj.cells #[.int .i8 0, .int .i8 0, .int .u8 0] 24) = w2 at hk2 ⊢
    obtain ⟨B, hB⟩ : ∃ B, B = w.heap.size := ⟨_, rfl⟩
    rw [← hB] at t0 t1 t2 e0 e1 e2 hb hM ⊢
    have hBs := cell_lt t0
    have HB := Lib.hid hB
    clear hB c0 c1 c2 c3 c4 hl
    go_loopw [8] (fun s8 wr => AtRel w1 (fun j => g (f + j)) (m0 + 1) (inV x y z) s8 wr) (fun s8 _ => (intOf s8 + 1).toNat)
    case atStart => exact ⟨m0 + 1, by omega, by rw [Hm0.out]; rfl, rfl, hk2⟩
    case round =>
      clear hk2
      obtain ⟨m, hm, rfl, hbk, hK⟩ := hrel
      have hq := (H.out.kept hk1 (by simp) (by simp)).kept hK (by simp) (by simp)
      have u0 := (hK.cell (p := ⟨B, 0, none⟩) (by simp) hBs).trans t0
      have u1 := (hK.cell (p := ⟨B, 1, none⟩) (by simp) hBs).trans t1
      have u2 := (hK.cell (p := ⟨B, 2, none⟩) (by simp) hBs).trans t2
      have v0 := (hK.frozen (p := ⟨B, 0, none⟩) (by simp) hBs).trans e0
      have v1 := (hK.frozen (p := ⟨B, 1, none⟩) (by simp) hBs).trans e1
      have v2 := (hK.frozen (p := ⟨B, 2, none⟩) (by simp) hBs).trans e2
      have hbel : Below B w wr := by rw [HB.out]; exact (hk1.trans hK).below (fun _ h => h.elim) (Nat.le_refl _)
      obtain ⟨d0, d1, d2, d3, d4, -, -, -, -, -, hmp, -, -⟩ := hq
      have hBs2 := cell_lt u0
      clear t0 t1 t2 e0 e1 e2 hk1
      cases m with
      | zero =>
        rw [show (((0 : Nat) : Int) - 1) = -1 from rfl]
        have HB2 := Lib.hid hbk
        have HK := Lib.hid hK
        have hbs := cell_lt d0
        clear hbk hmp hK
        go_wp2
        refine bodyPost_ret (v := .tuple #[.agg #[.int .i8 x, .int .i8 y, .int .u8 z], .bool false]) (by simp [results, Try.results9, go_sem, u0, u1, u2]) rfl ⟨by rw [← HB2.out]; rfl, ?_⟩
        rw [← HB.out]
        (repeat (first | exact hbel | refine Below.alloc ?_ (by simp; omega) _ | refine Below.setCell ?_ (by simp) _))
      | succ k =>
        rw [show (((k + 1 : Nat) : Int) - 1) = (k : Int) from by omega]
        have hl := hmp.looks (x := f + (k : Int)) (wf64_of (by omega) (by omega))
        have hmM := hmp.lt
        have hbs := cell_lt d0
        have HB2 := Lib.hid hbk
        have hrel2 : ∀ W : World, Kept (fun _ => False) wr W → g (f + (k : Int)) = none → AtRel w1 (fun j => g (f + j)) (m0 + 1) (inV x y z) (.int .i64 ((k : Int) - 1)) W := fun W hW hnone =>
          ⟨k, by omega, rfl, by rw [← HB2.out]; simp [back, hnone], hK.trans hW⟩
        have HR2 := Lib.hid hrel2
        have hbk2 : ∀ v, g (f + (k : Int)) = some v → back (fun j => g (f + j)) (m0 + 1) (inV x y z) = v := fun v hv => by rw [← HB2.out]; simp [back, hv]
        have HBK := Lib.hid hbk2
        clear hrel2 hbk2 hmp hbk hK
        cases hgk : g (f + (k : Int)) with
        | none =>
          rw [hgk] at hl
          have hl1 := hl wr.drew rfl
          have hl2 := hl (wr.alloc (Obj.cells #[.int .i8 0, .int .i8 0, .int .u8 0] 24)).drew (Below.heap_alloc _ _ _ hmM)
          simp only [Option.getD_none, Option.isSome_none] at hl1 hl2
          have hr := HR2.out (wr.alloc (Obj.cells #[.int .i8 0, .int .i8 0, .int .u8 0] 24)).drew ((Kept.refl _ _).alloc _ |>.drew) hgk
          have HR := Lib.hid hr
          clear hl hr hgk hbel
          go_wp2
          go_region
          all_goals go_wp2
          all_goals first | exact ⟨HR.out, by simp [intOf]⟩ | go_roundw
        | some v =>
          obtain ⟨i, j, l, rfl⟩ := HV.out k v hgk
          have HB3 := Lib.hid (HBK.out _ hgk)
          rw [hgk] at hl
          have hl1 := hl wr.drew rfl
          have hl2 := hl (wr.alloc (Obj.cells #[.int .i8 0, .int .i8 0, .int .u8 0] 24)).drew (Below.heap_alloc _ _ _ hmM)
          unfold inV at hl1 hl2
          simp only [Option.getD_some, Option.isSome_some] at hl1 hl2
          clear hl hgk
          go_wp2
          go_region
          all_goals go_wp2
          all_goals refine bodyPost_ret (v := .tuple #[.agg #[.int .i8 i, .int .i8 j, .int .u8 l], .bool false]) (by simp [results, Try.results9, go_sem, u0, u1, u2, hBs2]) rfl ⟨by rw [HB3.out]; rfl, ?_⟩
          all_goals rw [← HB.out]
          all_goals (repeat (first | exact hbel | refine Below.drew ?_ | refine Below.alloc ?_ (by simp; omega) _ | refine Below.setCell ?_ (by simp; try omega) _))
end Go.Proofs.Ytabgooglfgioiaa
