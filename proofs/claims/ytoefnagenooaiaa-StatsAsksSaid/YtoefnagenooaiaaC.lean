/-
  Stats: what the first Add does; what is no number is not noted; what Mean, Spread, Least, Most, Count tell.
-/
import Derived.Test.YtoefnagenooaiaaB
namespace Go.Proofs.Ytoefnagenooaiaa
set_option linter.unusedVariables false
open Go.ChangeShapes Go.WideShapes Go.ChangeAt Go.RowKit
attribute [local go_sem] run_neg_f64 frombits_run bits_run run_store_float

theorem block_of_cell {w : World} {b o : Nat} {v : Value} (h : w.cell? ⟨b, o, none⟩ = some v) : b < w.heap.size := by
  apply Classical.byContradiction
  intro hn
  have e : w.heap[b]? = none := by simp; omega
  simp [World.cell?, e] at h

set_option maxHeartbeats 1000000 in
theorem add_first (b : Nat) (m s l h : Nat) (f : Nat) (g : Nat) (hf : f < 18446744073709551616) (w : World) (a : LineAt w b 0 m s l h) (ff : FK.rg f = g) (t1 : (fo f f != some .eq) = false) (t2 : (fo g 9218868437227405311 == some .gt) = false) (t3 : (fo f 0 == some .lt) = false) :
    Calls Try.prog 11 #[.pointer (some ⟨b, 0, none⟩), .float .f64 f] w fun e w' => e = .returned (.bool true) ∧ LineAt w' b 1 g 0 g g ∧ Only b w w' := by
  obtain ⟨c0, c1, c2, c3, c4, f0, f1, f2, f3, f4⟩ := a
  have HF := Lib.hid hf
  have FF := Lib.hid ff
  clear hf ff
  go_enter Try.func11, Try.ntmps11
  go_wp2_with fail
  refine (isnan_any _ _).mono ?_
  rintro e w' ⟨rfl, rfl⟩
  rw [t1]
  go_wp2_with fail
  refine (isinf_any _ HF.out _).mono ?_
  rintro e w' ⟨rfl, rfl⟩
  rw [FF.out, t2]
  go_wp2_with fail
  refine (abs_any _ HF.out _).mono ?_
  rintro e w' ⟨rfl, rfl⟩
  rw [FF.out]
  go_wp2_with fail
  go_ret
  refine ⟨rfl, lineAt_of ?_ ?_ ?_ ?_ ?_ ?_ ?_ ?_ ?_ ?_, ?_⟩
  all_goals go_light
  all_goals first | (go_simp; done) | (repeat (first | exact Only.refl _ _ | refine Only.drew ?_ | refine Only.drewN ?_ _ | refine Only.setCell ?_ (by exact rfl) _))

theorem add_bad2 (b : Nat) (f g : Nat) (hf : f < 18446744073709551616) (ff : FK.rg f = g) (t1 : (fo f f != some .eq) = false) (t2 : (fo g 9218868437227405311 == some .gt) = true) (w : World) :
    Calls Try.prog 11 #[.pointer (some ⟨b, 0, none⟩), .float .f64 f] w fun e w' => e = .returned (.bool false) ∧ w = w' := by
  have HF := Lib.hid hf
  have FF := Lib.hid ff
  clear hf ff
  go_enter Try.func11, Try.ntmps11
  go_wp2_with fail
  refine (isnan_any _ _).mono ?_
  rintro e w' ⟨rfl, rfl⟩
  rw [t1]
  go_wp2_with fail
  refine (isinf_any _ HF.out _).mono ?_
  rintro e w' ⟨rfl, rfl⟩
  rw [FF.out, t2]
  go_wp2_with fail
  go_ret
  exact ⟨rfl, rfl⟩
theorem add_bad3 (b : Nat) (f g : Nat) (hf : f < 18446744073709551616) (ff : FK.rg f = g) (t1 : (fo f f != some .eq) = false) (t2 : (fo g 9218868437227405311 == some .gt) = false) (t3 : (fo f 0 == some .lt) = true) (w : World) :
    Calls Try.prog 11 #[.pointer (some ⟨b, 0, none⟩), .float .f64 f] w fun e w' => e = .returned (.bool false) ∧ w = w' := by
  have HF := Lib.hid hf
  have FF := Lib.hid ff
  clear hf ff
  go_enter Try.func11, Try.ntmps11
  go_wp2_with fail
  refine (isnan_any _ _).mono ?_
  rintro e w' ⟨rfl, rfl⟩
  rw [t1]
  go_wp2_with fail
  refine (isinf_any _ HF.out _).mono ?_
  rintro e w' ⟨rfl, rfl⟩
  rw [FF.out, t2]
  go_wp2_with fail
  go_ret
  exact ⟨rfl, rfl⟩
theorem add_nil (f : Nat) (w : World) :
    Calls Try.prog 11 #[.pointer none, .float .f64 f] w fun e w' => e = .returned (.bool false) ∧ w = w' := by
  go_enter Try.func11, Try.ntmps11
  go_wp2
  go_ret
  exact ⟨rfl, rfl⟩
theorem count_any (b : Nat) (n : Int) (m s l h : Nat) (w : World) (a : LineAt w b n m s l h) :
    Calls Try.prog 13 #[.pointer (some ⟨b, 0, none⟩)] w fun e w' => e = .returned (.int .i64 n) ∧ w = w' := by
  obtain ⟨c0, c1, c2, c3, c4, f0, f1, f2, f3, f4⟩ := a
  go_enter Try.func13, Try.ntmps13
  go_wp2
  go_ret
  exact ⟨rfl, rfl⟩
theorem count_nil (w : World) :
    Calls Try.prog 13 #[.pointer none] w fun e w' => e = .returned (.int .i64 0) ∧ w = w' := by
  go_enter Try.func13, Try.ntmps13
  go_wp2
  go_ret
  exact ⟨rfl, rfl⟩
theorem lit32 (b c : Nat) (m : Nat) (w : World) (c1 : w.cell? ⟨b, 1, none⟩ = some (.float .f64 m)) (cc : w.cell? ⟨c, 0, none⟩ = some (.pointer (some ⟨b, 0, none⟩))) :
    Calls Try.prog 32 #[.pointer (some ⟨c, 0, none⟩)] w fun e w' => e = .returned (.float .f64 m) ∧ w = w' := by
  go_enter Try.func32, Try.ntmps32
  go_wp2
  go_ret
  exact ⟨rfl, rfl⟩
theorem told32 (b c : Nat) (n : Int) (m : Nat) (hn : (n == 0) = false) (w : World) (c0 : w.cell? ⟨b, 0, none⟩ = some (.int .i64 n)) (c1 : w.cell? ⟨b, 1, none⟩ = some (.float .f64 m)) (cc : w.cell? ⟨c, 0, none⟩ = some (.pointer (some ⟨b, 0, none⟩))) :
    Calls Try.prog 31 #[.pointer (some ⟨b, 0, none⟩), .func (Fn.func 32) #[] #[.pointer (some ⟨c, 0, none⟩)]] w fun e w' => e = .returned (.float .f64 m) ∧ w = w' := by
  have C1 := Lib.hid c1
  have CC := Lib.hid cc
  clear c1 cc
  go_enter Try.func31, Try.ntmps31
  go_wp2_with fail
  refine (lit32 b c m _ C1.out CC.out).mono ?_
  rintro e w' ⟨rfl, rfl⟩
  go_wp2_with fail
  go_ret
  exact ⟨rfl, rfl⟩
theorem told32_0 (b c : Nat) (w : World) (c0 : w.cell? ⟨b, 0, none⟩ = some (.int .i64 0)) :
    Calls Try.prog 31 #[.pointer (some ⟨b, 0, none⟩), .func (Fn.func 32) #[] #[.pointer (some ⟨c, 0, none⟩)]] w fun e w' => e = .returned (.float .f64 9221120237041090561) ∧ w = w' := by
  go_enter Try.func31, Try.ntmps31
  go_wp2_with fail
  refine (nan_val _).mono ?_
  rintro e w' ⟨rfl, rfl⟩
  go_wp2_with fail
  go_ret
  exact ⟨rfl, rfl⟩
theorem mean_any (b : Nat) (n : Int) (m s l h : Nat) (hn : (n == 0) = false) (w : World) (a : LineAt w b n m s l h) :
    Calls Try.prog 15 #[.pointer (some ⟨b, 0, none⟩)] w fun e w' => e = .returned (.float .f64 m) ∧ Below w.heap.size w w' := by
  have A := Lib.hid a
  go_enter Try.func15, Try.ntmps15
  go_wp2_with fail
  have a' := A.out.below ((Below.refl w.heap.size w).alloc (Nat.le_refl _) (Obj.cells #[Value.pointer (some { block := b, off := 0 })] 25)) (block_of_cell A.out.c0)
  refine (told32 b w.heap.size n m hn _ a'.c0 a'.c1 (by go_simp)).mono ?_
  rintro e w' ⟨rfl, rfl⟩
  go_wp2_with fail
  go_ret
  exact ⟨rfl, (Below.refl _ _).alloc (Nat.le_refl _) _⟩
theorem mean_0 (b : Nat) (m s l h : Nat) (w : World) (a : LineAt w b 0 m s l h) :
    Calls Try.prog 15 #[.pointer (some ⟨b, 0, none⟩)] w fun e w' => e = .returned (.float .f64 9221120237041090561) ∧ Below w.heap.size w w' := by
  have A := Lib.hid a
  go_enter Try.func15, Try.ntmps15
  go_wp2_with fail
  have a' := A.out.below ((Below.refl w.heap.size w).alloc (Nat.le_refl _) (Obj.cells #[Value.pointer (some { block := b, off := 0 })] 25)) (block_of_cell A.out.c0)
  refine (told32_0 b w.heap.size _ a'.c0).mono ?_
  rintro e w' ⟨rfl, rfl⟩
  go_wp2_with fail
  go_ret
  exact ⟨rfl, (Below.refl _ _).alloc (Nat.le_refl _) _⟩
theorem lit33 (b c : Nat) (m : Nat) (w : World) (c1 : w.cell? ⟨b, 2, none⟩ = some (.float .f64 m)) (cc : w.cell? ⟨c, 0, none⟩ = some (.pointer (some ⟨b, 0, none⟩))) :
    Calls Try.prog 33 #[.pointer (some ⟨c, 0, none⟩)] w fun e w' => e = .returned (.float .f64 m) ∧ w = w' := by
  go_enter Try.func33, Try.ntmps33
  go_wp2
  go_ret
  exact ⟨rfl, rfl⟩
theorem told33 (b c : Nat) (n : Int) (m : Nat) (hn : (n == 0) = false) (w : World) (c0 : w.cell? ⟨b, 0, none⟩ = some (.int .i64 n)) (c1 : w.cell? ⟨b, 2, none⟩ = some (.float .f64 m)) (cc : w.cell? ⟨c, 0, none⟩ = some (.pointer (some ⟨b, 0, none⟩))) :
    Calls Try.prog 31 #[.pointer (some ⟨b, 0, none⟩), .func (Fn.func 33) #[] #[.pointer (some ⟨c, 0, none⟩)]] w fun e w' => e = .returned (.float .f64 m) ∧ w = w' := by
  have C1 := Lib.hid c1
  have CC := Lib.hid cc
  clear c1 cc
  go_enter Try.func31, Try.ntmps31
  go_wp2_with fail
  refine (lit33 b c m _ C1.out CC.out).mono ?_
  rintro e w' ⟨rfl, rfl⟩
  go_wp2_with fail
  go_ret
  exact ⟨rfl, rfl⟩
theorem told33_0 (b c : Nat) (w : World) (c0 : w.cell? ⟨b, 0, none⟩ = some (.int .i64 0)) :
    Calls Try.prog 31 #[.pointer (some ⟨b, 0, none⟩), .func (Fn.func 33) #[] #[.pointer (some ⟨c, 0, none⟩)]] w fun e w' => e = .returned (.float .f64 9221120237041090561) ∧ w = w' := by
  go_enter Try.func31, Try.ntmps31
  go_wp2_with fail
  refine (nan_val _).mono ?_
  rintro e w' ⟨rfl, rfl⟩
  go_wp2_with fail
  go_ret
  exact ⟨rfl, rfl⟩
theorem spread_any (b : Nat) (n : Int) (m s l h : Nat) (hn : (n == 0) = false) (w : World) (a : LineAt w b n m s l h) :
    Calls Try.prog 16 #[.pointer (some ⟨b, 0, none⟩)] w fun e w' => e = .returned (.float .f64 s) ∧ Below w.heap.size w w' := by
  have A := Lib.hid a
  go_enter Try.func16, Try.ntmps16
  go_wp2_with fail
  have a' := A.out.below ((Below.refl w.heap.size w).alloc (Nat.le_refl _) (Obj.cells #[Value.pointer (some { block := b, off := 0 })] 25)) (block_of_cell A.out.c0)
  refine (told33 b w.heap.size n s hn _ a'.c0 a'.c2 (by go_simp)).mono ?_
  rintro e w' ⟨rfl, rfl⟩
  go_wp2_with fail
  go_ret
  exact ⟨rfl, (Below.refl _ _).alloc (Nat.le_refl _) _⟩
theorem spread_0 (b : Nat) (m s l h : Nat) (w : World) (a : LineAt w b 0 m s l h) :
    Calls Try.prog 16 #[.pointer (some ⟨b, 0, none⟩)] w fun e w' => e = .returned (.float .f64 9221120237041090561) ∧ Below w.heap.size w w' := by
  have A := Lib.hid a
  go_enter Try.func16, Try.ntmps16
  go_wp2_with fail
  have a' := A.out.below ((Below.refl w.heap.size w).alloc (Nat.le_refl _) (Obj.cells #[Value.pointer (some { block := b, off := 0 })] 25)) (block_of_cell A.out.c0)
  refine (told33_0 b w.heap.size _ a'.c0).mono ?_
  rintro e w' ⟨rfl, rfl⟩
  go_wp2_with fail
  go_ret
  exact ⟨rfl, (Below.refl _ _).alloc (Nat.le_refl _) _⟩
theorem lit34 (b c : Nat) (m : Nat) (w : World) (c1 : w.cell? ⟨b, 3, none⟩ = some (.float .f64 m)) (cc : w.cell? ⟨c, 0, none⟩ = some (.pointer (some ⟨b, 0, none⟩))) :
    Calls Try.prog 34 #[.pointer (some ⟨c, 0, none⟩)] w fun e w' => e = .returned (.float .f64 m) ∧ w = w' := by
  go_enter Try.func34, Try.ntmps34
  go_wp2
  go_ret
  exact ⟨rfl, rfl⟩
theorem told34 (b c : Nat) (n : Int) (m : Nat) (hn : (n == 0) = false) (w : World) (c0 : w.cell? ⟨b, 0, none⟩ = some (.int .i64 n)) (c1 : w.cell? ⟨b, 3, none⟩ = some (.float .f64 m)) (cc : w.cell? ⟨c, 0, none⟩ = some (.pointer (some ⟨b, 0, none⟩))) :
    Calls Try.prog 31 #[.pointer (some ⟨b, 0, none⟩), .func (Fn.func 34) #[] #[.pointer (some ⟨c, 0, none⟩)]] w fun e w' => e = .returned (.float .f64 m) ∧ w = w' := by
  have C1 := Lib.hid c1
  have CC := Lib.hid cc
  clear c1 cc
  go_enter Try.func31, Try.ntmps31
  go_wp2_with fail
  refine (lit34 b c m _ C1.out CC.out).mono ?_
  rintro e w' ⟨rfl, rfl⟩
  go_wp2_with fail
  go_ret
  exact ⟨rfl, rfl⟩
theorem told34_0 (b c : Nat) (w : World) (c0 : w.cell? ⟨b, 0, none⟩ = some (.int .i64 0)) :
    Calls Try.prog 31 #[.pointer (some ⟨b, 0, none⟩), .func (Fn.func 34) #[] #[.pointer (some ⟨c, 0, none⟩)]] w fun e w' => e = .returned (.float .f64 9221120237041090561) ∧ w = w' := by
  go_enter Try.func31, Try.ntmps31
  go_wp2_with fail
  refine (nan_val _).mono ?_
  rintro e w' ⟨rfl, rfl⟩
  go_wp2_with fail
  go_ret
  exact ⟨rfl, rfl⟩
theorem least_any (b : Nat) (n : Int) (m s l h : Nat) (hn : (n == 0) = false) (w : World) (a : LineAt w b n m s l h) :
    Calls Try.prog 17 #[.pointer (some ⟨b, 0, none⟩)] w fun e w' => e = .returned (.float .f64 l) ∧ Below w.heap.size w w' := by
  have A := Lib.hid a
  go_enter Try.func17, Try.ntmps17
  go_wp2_with fail
  have a' := A.out.below ((Below.refl w.heap.size w).alloc (Nat.le_refl _) (Obj.cells #[Value.pointer (some { block := b, off := 0 })] 25)) (block_of_cell A.out.c0)
  refine (told34 b w.heap.size n l hn _ a'.c0 a'.c3 (by go_simp)).mono ?_
  rintro e w' ⟨rfl, rfl⟩
  go_wp2_with fail
  go_ret
  exact ⟨rfl, (Below.refl _ _).alloc (Nat.le_refl _) _⟩
theorem least_0 (b : Nat) (m s l h : Nat) (w : World) (a : LineAt w b 0 m s l h) :
    Calls Try.prog 17 #[.pointer (some ⟨b, 0, none⟩)] w fun e w' => e = .returned (.float .f64 9221120237041090561) ∧ Below w.heap.size w w' := by
  have A := Lib.hid a
  go_enter Try.func17, Try.ntmps17
  go_wp2_with fail
  have a' := A.out.below ((Below.refl w.heap.size w).alloc (Nat.le_refl _) (Obj.cells #[Value.pointer (some { block := b, off := 0 })] 25)) (block_of_cell A.out.c0)
  refine (told34_0 b w.heap.size _ a'.c0).mono ?_
  rintro e w' ⟨rfl, rfl⟩
  go_wp2_with fail
  go_ret
  exact ⟨rfl, (Below.refl _ _).alloc (Nat.le_refl _) _⟩
theorem lit35 (b c : Nat) (m : Nat) (w : World) (c1 : w.cell? ⟨b, 4, none⟩ = some (.float .f64 m)) (cc : w.cell? ⟨c, 0, none⟩ = some (.pointer (some ⟨b, 0, none⟩))) :
    Calls Try.prog 35 #[.pointer (some ⟨c, 0, none⟩)] w fun e w' => e = .returned (.float .f64 m) ∧ w = w' := by
  go_enter Try.func35, Try.ntmps35
  go_wp2
  go_ret
  exact ⟨rfl, rfl⟩
theorem told35 (b c : Nat) (n : Int) (m : Nat) (hn : (n == 0) = false) (w : World) (c0 : w.cell? ⟨b, 0, none⟩ = some (.int .i64 n)) (c1 : w.cell? ⟨b, 4, none⟩ = some (.float .f64 m)) (cc : w.cell? ⟨c, 0, none⟩ = some (.pointer (some ⟨b, 0, none⟩))) :
    Calls Try.prog 31 #[.pointer (some ⟨b, 0, none⟩), .func (Fn.func 35) #[] #[.pointer (some ⟨c, 0, none⟩)]] w fun e w' => e = .returned (.float .f64 m) ∧ w = w' := by
  have C1 := Lib.hid c1
  have CC := Lib.hid cc
  clear c1 cc
  go_enter Try.func31, Try.ntmps31
  go_wp2_with fail
  refine (lit35 b c m _ C1.out CC.out).mono ?_
  rintro e w' ⟨rfl, rfl⟩
  go_wp2_with fail
  go_ret
  exact ⟨rfl, rfl⟩
theorem told35_0 (b c : Nat) (w : World) (c0 : w.cell? ⟨b, 0, none⟩ = some (.int .i64 0)) :
    Calls Try.prog 31 #[.pointer (some ⟨b, 0, none⟩), .func (Fn.func 35) #[] #[.pointer (some ⟨c, 0, none⟩)]] w fun e w' => e = .returned (.float .f64 9221120237041090561) ∧ w = w' := by
  go_enter Try.func31, Try.ntmps31
  go_wp2_with fail
  refine (nan_val _).mono ?_
  rintro e w' ⟨rfl, rfl⟩
  go_wp2_with fail
  go_ret
  exact ⟨rfl, rfl⟩
theorem most_any (b : Nat) (n : Int) (m s l h : Nat) (hn : (n == 0) = false) (w : World) (a : LineAt w b n m s l h) :
    Calls Try.prog 18 #[.pointer (some ⟨b, 0, none⟩)] w fun e w' => e = .returned (.float .f64 h) ∧ Below w.heap.size w w' := by
  have A := Lib.hid a
  go_enter Try.func18, Try.ntmps18
  go_wp2_with fail
  have a' := A.out.below ((Below.refl w.heap.size w).alloc (Nat.le_refl _) (Obj.cells #[Value.pointer (some { block := b, off := 0 })] 25)) (block_of_cell A.out.c0)
  refine (told35 b w.heap.size n h hn _ a'.c0 a'.c4 (by go_simp)).mono ?_
  rintro e w' ⟨rfl, rfl⟩
  go_wp2_with fail
  go_ret
  exact ⟨rfl, (Below.refl _ _).alloc (Nat.le_refl _) _⟩
theorem most_0 (b : Nat) (m s l h : Nat) (w : World) (a : LineAt w b 0 m s l h) :
    Calls Try.prog 18 #[.pointer (some ⟨b, 0, none⟩)] w fun e w' => e = .returned (.float .f64 9221120237041090561) ∧ Below w.heap.size w w' := by
  have A := Lib.hid a
  go_enter Try.func18, Try.ntmps18
  go_wp2_with fail
  have a' := A.out.below ((Below.refl w.heap.size w).alloc (Nat.le_refl _) (Obj.cells #[Value.pointer (some { block := b, off := 0 })] 25)) (block_of_cell A.out.c0)
  refine (told35_0 b w.heap.size _ a'.c0).mono ?_
  rintro e w' ⟨rfl, rfl⟩
  go_wp2_with fail
  go_ret
  exact ⟨rfl, (Below.refl _ _).alloc (Nat.le_refl _) _⟩
theorem mean_nil (w : World) :
    Calls Try.prog 15 #[.pointer none] w fun e w' => e = .returned (.float .f64 9221120237041090561) ∧ Below w.heap.size w w' := by
  go_enter Try.func15, Try.ntmps15
  go_wp2_with fail
  have t : ∀ W c, Calls Try.prog 31 #[.pointer none, .func (Fn.func 32) #[] #[.pointer (some ⟨c, 0, none⟩)]] W fun e w' => e = .returned (.float .f64 9221120237041090561) ∧ W = w' := by
    intro W c
    go_enter Try.func31, Try.ntmps31
    go_wp2_with fail
    refine (nan_val _).mono ?_
    rintro e w' ⟨rfl, rfl⟩
    go_wp2_with fail
    go_ret
    exact ⟨rfl, rfl⟩
  refine (t _ _).mono ?_
  rintro e w' ⟨rfl, rfl⟩
  go_wp2_with fail
  go_ret
  exact ⟨rfl, (Below.refl _ _).alloc (Nat.le_refl _) _⟩
end Go.Proofs.Ytoefnagenooaiaa
