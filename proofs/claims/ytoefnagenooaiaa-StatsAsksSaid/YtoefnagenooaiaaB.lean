/-
  Stats: a Line in memory, the reference's likewise; what Add does.
-/
import Derived.Test.YtoefnagenooaiaaA
namespace Go.Proofs.Ytoefnagenooaiaa
set_option linter.unusedVariables false
open Go.ChangeShapes Go.WideShapes Go.ChangeAt Go.RowKit
attribute [local go_sem] run_neg_f64 frombits_run bits_run run_store_float

/-- Only block b may have changed. -/
structure Only (b : Nat) (w w' : World) : Prop where
  os : w'.os = w.os
  tape : w'.tape = w.tape
  output : w'.output = w.output
  size : w'.heap.size = w.heap.size
  block : ∀ k, k ≠ b → w'.heap[k]? = w.heap[k]?

theorem Only.refl (b : Nat) (w : World) : Only b w w := ⟨rfl, rfl, rfl, rfl, fun _ _ => rfl⟩
theorem Only.trans {b : Nat} {x y z : World} (h : Only b x y) (k : Only b y z) : Only b x z :=
  ⟨k.os.trans h.os, k.tape.trans h.tape, k.output.trans h.output, k.size.trans h.size, fun i hi => (k.block i hi).trans (h.block i hi)⟩
theorem Only.drewN {b : Nat} {a w : World} (h : Only b a w) (n : Nat) : Only b a (w.drewN n) := ⟨h.os, h.tape, h.output, h.size, h.block⟩
theorem Only.drew {b : Nat} {a w : World} (h : Only b a w) : Only b a w.drew := ⟨h.os, h.tape, h.output, h.size, h.block⟩
theorem Only.setCell {b : Nat} {a w : World} (h : Only b a w) {p : Addr} (hp : p.block = b) (u : Value) : Only b a (w.setCell p u) :=
  h.trans ⟨rfl, rfl, rfl, by simp [World.setCell], fun k hk => Below.heap_setCell _ _ _ _ (by omega)⟩
theorem Only.below {b B : Nat} {w w' : World} (h : Only b w w') (hb : B ≤ b) : Below B w w' :=
  ⟨h.os, h.tape, h.output, by rw [h.size]; omega, fun k hk => h.block k (by omega)⟩
theorem Only.cell {b : Nat} {w w' : World} (h : Only b w w') {p : Addr} (hp : p.block ≠ b) : w'.cell? p = w.cell? p := World.cell?_of_block (w := w) (h.block p.block hp)
theorem Only.frozen {b : Nat} {w w' : World} (h : Only b w w') {p : Addr} (hp : p.block ≠ b) : w'.frozen? p = w.frozen? p := World.frozen?_of_block (w := w) (h.block p.block hp)

/-- A Line in memory. -/
structure LineAt (w : World) (b : Nat) (n : Int) (m s l h : Nat) : Prop where
  c0 : w.cell? ⟨b, 0, none⟩ = some (.int .i64 n)
  c1 : w.cell? ⟨b, 1, none⟩ = some (.float .f64 m)
  c2 : w.cell? ⟨b, 2, none⟩ = some (.float .f64 s)
  c3 : w.cell? ⟨b, 3, none⟩ = some (.float .f64 l)
  c4 : w.cell? ⟨b, 4, none⟩ = some (.float .f64 h)
  f0 : w.frozen? ⟨b, 0, none⟩ = false
  f1 : w.frozen? ⟨b, 1, none⟩ = false
  f2 : w.frozen? ⟨b, 2, none⟩ = false
  f3 : w.frozen? ⟨b, 3, none⟩ = false
  f4 : w.frozen? ⟨b, 4, none⟩ = false
theorem lineAt_of {w : World} {b : Nat} {n : Int} {m s l h : Nat} (c0 : w.cell? ⟨b, 0, none⟩ = some (.int .i64 n)) (c1 : w.cell? ⟨b, 1, none⟩ = some (.float .f64 m)) (c2 : w.cell? ⟨b, 2, none⟩ = some (.float .f64 s)) (c3 : w.cell? ⟨b, 3, none⟩ = some (.float .f64 l)) (c4 : w.cell? ⟨b, 4, none⟩ = some (.float .f64 h)) (f0 : w.frozen? ⟨b, 0, none⟩ = false) (f1 : w.frozen? ⟨b, 1, none⟩ = false) (f2 : w.frozen? ⟨b, 2, none⟩ = false) (f3 : w.frozen? ⟨b, 3, none⟩ = false) (f4 : w.frozen? ⟨b, 4, none⟩ = false) : LineAt w b n m s l h := ⟨c0, c1, c2, c3, c4, f0, f1, f2, f3, f4⟩
theorem LineAt.below {w w' : World} {b B : Nat} {n : Int} {m s l h : Nat} (a : LineAt w b n m s l h) (k : Below B w w') (hb : b < B) : LineAt w' b n m s l h := by
  have hc : ∀ o, w'.cell? ⟨b, o, none⟩ = w.cell? ⟨b, o, none⟩ := fun o => World.cell?_of_block (w := w) (k.block b hb)
  have hf : ∀ o, w'.frozen? ⟨b, o, none⟩ = w.frozen? ⟨b, o, none⟩ := fun o => World.frozen?_of_block (w := w) (k.block b hb)
  exact ⟨by rw [hc, a.c0], by rw [hc, a.c1], by rw [hc, a.c2], by rw [hc, a.c3], by rw [hc, a.c4], by rw [hf, a.f0], by rw [hf, a.f1], by rw [hf, a.f2], by rw [hf, a.f3], by rw [hf, a.f4]⟩
theorem LineAt.only {w w' : World} {b b' : Nat} {n : Int} {m s l h : Nat} (a : LineAt w b n m s l h) (k : Only b' w w') (hb : b ≠ b') : LineAt w' b n m s l h := by
  have hc : ∀ o, w'.cell? ⟨b, o, none⟩ = w.cell? ⟨b, o, none⟩ := fun o => World.cell?_of_block (w := w) (k.block b hb)
  have hf : ∀ o, w'.frozen? ⟨b, o, none⟩ = w.frozen? ⟨b, o, none⟩ := fun o => World.frozen?_of_block (w := w) (k.block b hb)
  exact ⟨by rw [hc, a.c0], by rw [hc, a.c1], by rw [hc, a.c2], by rw [hc, a.c3], by rw [hc, a.c4], by rw [hf, a.f0], by rw [hf, a.f1], by rw [hf, a.f2], by rw [hf, a.f3], by rw [hf, a.f4]⟩

theorem new_any (w : World) :
    Calls Try.prog 9 #[] w fun e w' => e = .returned (.pointer (some ⟨w.heap.size, 0, none⟩)) ∧ LineAt w' w.heap.size 0 0 0 0 0 ∧ Below w.heap.size w w' ∧ w'.heap.size = w.heap.size + 1 := by
  go_enter Try.func9, Try.ntmps9
  go_wp2
  go_ret
  refine ⟨rfl, ?_, (Below.refl _ _).alloc (Nat.le_refl _) _, by simp⟩
  constructor <;> go_simp
theorem rnew_any (w : World) :
    Calls Try.prog 10 #[] w fun e w' => e = .returned (.pointer (some ⟨w.heap.size, 0, none⟩)) ∧ LineAt w' w.heap.size 0 9221120237041090561 9221120237041090561 9221120237041090561 9221120237041090561 ∧ Below w.heap.size w w' ∧ w'.heap.size = w.heap.size + 1 := by
  go_enter Try.func10, Try.ntmps10
  go_wp2_with fail
  refine (nan_val _).mono ?_
  rintro e w' ⟨rfl, rfl⟩
  go_wp2_with fail
  refine (nan_val _).mono ?_
  rintro e w' ⟨rfl, rfl⟩
  go_wp2_with fail
  refine (nan_val _).mono ?_
  rintro e w' ⟨rfl, rfl⟩
  go_wp2_with fail
  refine (nan_val _).mono ?_
  rintro e w' ⟨rfl, rfl⟩
  go_wp2_with fail
  go_ret
  refine ⟨rfl, ?_, (Below.refl _ _).alloc (Nat.le_refl _) _, by simp⟩
  constructor <;> go_simp
theorem add_bad1 (b : Nat) (f : Nat) (hf : f < 18446744073709551616) (h : (fo f f != some .eq) = true) (w : World) :
    Calls Try.prog 11 #[.pointer (some ⟨b, 0, none⟩), .float .f64 f] w fun e w' => e = .returned (.bool false) ∧ w = w' := by
  go_enter Try.func11, Try.ntmps11
  go_wp2_with fail
  refine (isnan_any _ _).mono ?_
  rintro e w' ⟨rfl, rfl⟩
  rw [h]
  go_wp2_with fail
  go_ret
  exact ⟨rfl, rfl⟩
set_option maxHeartbeats 2000000 in
theorem add_more (b : Nat) (n : Int) (m s l h : Nat) (f : Nat) (hf : f < 9218868437227405312) (d p m' d2 p2 s' : Nat) (h1 : FK.Step m f 4620693217682128896 d p m') (h2 : FK.Step s (FK.rg d) 4616189618054758400 d2 p2 s') (hl : l < 9218868437227405312) (hh : h < 9218868437227405312) (n0 : 1 ≤ n) (n1 : n < 1000) (w : World) (a : LineAt w b n m s l h) (ff : FK.rg f = f) (t1 : (fo f f != some .eq) = false) (t2 : (fo f 9218868437227405311 == some .gt) = false) (t3 : (fo f 0 == some .lt) = false) :
    Calls Try.prog 11 #[.pointer (some ⟨b, 0, none⟩), .float .f64 f] w fun e w' => e = .returned (.bool true) ∧ LineAt w' b (n + 1) m' s' (min l f) (max h f) ∧ Only b w w' := by
  obtain ⟨c0, c1, c2, c3, c4, f0, f1, f2, f3, f4⟩ := a
  have HF := Lib.hid hf
  have FF := Lib.hid ff
  have DD := Lib.hid h1.dlt
  have x1 := fun (W : World) => run_float_arith (P := Try.prog) W .sub 23 .f64 _ _ _ h1.sub
  have x2 := fun (W : World) => run_float_arith (P := Try.prog) W .quo 23 .f64 _ _ _ h1.div
  have x3 := fun (W : World) => run_float_arith (P := Try.prog) W .add 23 .f64 _ _ _ h1.add
  have x4 := fun (W : World) => run_float_arith (P := Try.prog) W .sub 23 .f64 _ _ _ h2.sub
  have x5 := fun (W : World) => run_float_arith (P := Try.prog) W .quo 23 .f64 _ _ _ h2.div
  have x6 := fun (W : World) => run_float_arith (P := Try.prog) W .add 23 .f64 _ _ _ h2.add
  have x7 := fun ts t (W : World) => run_min_f (P := Try.prog) (x := l) (y := f) (by omega) (by omega) ts t W
  have x8 := fun ts t (W : World) => run_max_f (P := Try.prog) (x := h) (y := f) (by omega) (by omega) ts t W
  have H1 := Lib.hid h1
  have H2 := Lib.hid h2
  clear h1 h2 hf ff hl hh
  go_enter Try.func11, Try.ntmps11
  go_wp2_with fail
  refine (isnan_any _ _).mono ?_
  rintro e w' ⟨rfl, rfl⟩
  rw [t1]
  go_wp2_with fail
  refine (isinf_any _ (by have := HF.out; omega) _).mono ?_
  rintro e w' ⟨rfl, rfl⟩
  rw [FF.out, t2]
  go_wp2_with fail
  refine (abs_any _ (by have := HF.out; omega) _).mono ?_
  rintro e w' ⟨rfl, rfl⟩
  rw [FF.out]
  go_wp2_with fail
  go_quiet ((go_at_call 24; exact quiet_eq (abs_any d DD.out _)))
  go_wp2_with fail
  obtain ⟨w2, hw2⟩ : ∃ w2, w2 = (((w.setCell ⟨b, 0, none⟩ (.int .i64 (n + 1))).setCell ⟨b, 1, none⟩ (.float .f64 m')).drewN nq).setCell ⟨b, 2, none⟩ (.float .f64 s') := ⟨_, rfl⟩
  have hL : LineAt w2 b (n + 1) m' s' l h := by
    rw [hw2]
    refine lineAt_of ?_ ?_ ?_ ?_ ?_ ?_ ?_ ?_ ?_ ?_
    all_goals go_simp
  have hO : Only b w w2 := by
    rw [hw2]
    exact (((((Only.refl b w).setCell rfl _).setCell rfl _).drewN _).setCell rfl _)
  rw [← hw2]
  have HO := Lib.hid hO
  clear hO hw2 c0 c1 c2 c3 c4 f0 f1 f2 f3 f4 x1 x2 x3 x4 x5 x6
  obtain ⟨c0, c1, c2, c3, c4, f0, f1, f2, f3, f4⟩ := hL
  go_region_with (fail)
  all_goals (go_wp2; go_ret)
  all_goals refine ⟨rfl, lineAt_of ?_ ?_ ?_ ?_ ?_ ?_ ?_ ?_ ?_ ?_, ?_⟩
  all_goals go_light
  all_goals first | (go_simp; done) | (repeat (first | exact HO.out | refine Only.drew ?_ | refine Only.drewN ?_ _ | refine Only.setCell ?_ (by exact rfl) _))
end Go.Proofs.Ytoefnagenooaiaa
