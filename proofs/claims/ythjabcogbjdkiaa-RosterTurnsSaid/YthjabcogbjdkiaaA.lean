/-
  Roster: the closure of May.
-/
import Derived.Test.YthjabcogbjdkiaaRows
import Derived.WalkKit
import Derived.ProofKit
import Derived.OpenShut
import Derived.Outline
import Derived.Deep.QuietTactic
import Derived.BigQuiet
import Derived.Deep.RegionWith
import Derived.Deep.Light
import Derived.Lib.Hide
import Derived.Lib.QuietBelow
import Derived.RegionTactic
namespace Go.Proofs.Ythjabcogbjdkiaa
set_option linter.unusedVariables false
open Go.ChangeShapes Go.WideShapes Go.ChangeAt Go.RowKit

/-- Only block b may have changed. -/
structure Only (b : Nat) (w w' : World) : Prop where
  os : w'.os = w.os
  tape : w'.tape = w.tape
  output : w'.output = w.output
  size : w'.heap.size = w.heap.size
  block : ∀ k, k ≠ b → w'.heap[k]? = w.heap[k]?

theorem Only.refl (b : Nat) (w : World) : Only b w w := ⟨rfl, rfl, rfl, rfl, fun _ _ => rfl⟩
theorem Only.trans {b : Nat} {x y z : World} (h : Only b x y) (k : Only b y z) : Only b x z :=
  ⟨k.os.trans h.os, k.tape.trans h.tape, k.output.trans h.output, k.size.trans h.size, fun i hi => (k.block i hi).trans (h.block i hi)⟩
theorem Only.drewN {b : Nat} {a w : World} (h : Only b a w) (n : Nat) : Only b a (w.drewN n) := ⟨h.os, h.tape, h.output, h.size, h.block⟩
theorem Only.drew {b : Nat} {a w : World} (h : Only b a w) : Only b a w.drew := ⟨h.os, h.tape, h.output, h.size, h.block⟩
theorem Only.setCell {b : Nat} {a w : World} (h : Only b a w) {p : Addr} (hp : p.block = b) (u : Value) : Only b a (w.setCell p u) :=
  h.trans ⟨rfl, rfl, rfl, by simp [World.setCell], fun k hk => Below.heap_setCell _ _ _ _ (by omega)⟩
theorem Only.below {b B : Nat} {w w' : World} (h : Only b w w') (hb : B ≤ b) : Below B w w' :=
  ⟨h.os, h.tape, h.output, by rw [h.size]; omega, fun k hk => h.block k (by omega)⟩
theorem Only.cell {b : Nat} {w w' : World} (h : Only b w w') {p : Addr} (hp : p.block ≠ b) : w'.cell? p = w.cell? p := World.cell?_of_block (w := w) (h.block p.block hp)
theorem Only.frozen {b : Nat} {w w' : World} (h : Only b w w') {p : Addr} (hp : p.block ≠ b) : w'.frozen? p = w.frozen? p := World.frozen?_of_block (w := w) (h.block p.block hp)

/-- Only blocks of which P says so, and new ones, may have turned. -/
structure Frame (P : Nat → Prop) (w w' : World) : Prop where
  os : w'.os = w.os
  tape : w'.tape = w.tape
  output : w'.output = w.output
  size : w.heap.size ≤ w'.heap.size
  block : ∀ k, k < w.heap.size → ¬P k → w'.heap[k]? = w.heap[k]?
theorem Frame.refl (P : Nat → Prop) (w : World) : Frame P w w := ⟨rfl, rfl, rfl, Nat.le_refl _, fun _ _ _ => rfl⟩
theorem Frame.trans {P : Nat → Prop} {x y z : World} (a : Frame P x y) (b : Frame P y z) : Frame P x z :=
  ⟨b.os.trans a.os, b.tape.trans a.tape, b.output.trans a.output, Nat.le_trans a.size b.size, fun k hk hp => (b.block k (Nat.lt_of_lt_of_le hk a.size) hp).trans (a.block k hk hp)⟩
theorem Frame.setCell {P : Nat → Prop} {w w' : World} (a : Frame P w w') {x : Addr} (hx : P x.block) (u : Value) : Frame P w (w'.setCell x u) := by
  have h := (Only.refl x.block w').setCell rfl u
  exact a.trans ⟨h.os, h.tape, h.output, Nat.le_of_eq h.size.symm, fun k _ hp => h.block k (fun e => hp (e ▸ hx))⟩
theorem Frame.alloc {P : Nat → Prop} {w w' : World} (a : Frame P w w') (o : Obj) : Frame P w (w'.alloc o) := by
  have h := (Below.refl w'.heap.size w').alloc (Nat.le_refl _) o
  exact a.trans ⟨h.os, h.tape, h.output, h.size, fun k hk _ => h.block k hk⟩
theorem Frame.drew {P : Nat → Prop} {w w' : World} (a : Frame P w w') : Frame P w w'.drew := ⟨a.os, a.tape, a.output, a.size, a.block⟩
theorem Frame.drewN {P : Nat → Prop} {w w' : World} (a : Frame P w w') (n : Nat) : Frame P w (w'.drewN n) := ⟨a.os, a.tape, a.output, a.size, a.block⟩
theorem Frame.of_below {w w' : World} (b : Below w.heap.size w w') (P : Nat → Prop) : Frame P w w' := ⟨b.os, b.tape, b.output, b.size, fun k hk _ => b.block k hk⟩

theorem i64_bits (a b : Nat) (ha : a < 2 ^ 62) (hb : b < 2 ^ 62) :
    bits .and .i64 a b = ((a &&& b : Nat) : Int) ∧ bits .or .i64 a b = ((a ||| b : Nat) : Int) := by
  have h := bits_nat .i64 62 (by decide) (fun n h0 h1 => IntWalk.i64_in n (by omega)) a b ha hb
  exact ⟨h.1, h.2⟩
theorem pow_and (m i : Nat) : (2 ^ i &&& m = 0) ↔ m.testBit i = false := by
  rw [Nat.and_comm]
  constructor
  · intro h
    cases h2 : m.testBit i with
    | false => rfl
    | true =>
      have h1 : (m &&& 2 ^ i).testBit i = true := by rw [Nat.testBit_and, h2, Nat.testBit_two_pow_self]; rfl
      rw [h] at h1; simp at h1
  · intro h
    apply Nat.eq_of_testBit_eq; intro k
    rw [Nat.testBit_and, Nat.testBit_two_pow]
    by_cases hk : i = k
    · subst hk; simp [h]
    · simp [hk]
/-- A seat that may not be, whoever else there is. -/
def wrongSeat (p g : Int) : Bool := decide (p < -1) || decide (12 ≤ p) || decide (g < 0) || decide (60000 < g)
/-- A seat that may not be behind others. -/
def badSeat (p g : Int) (M : Nat) : Bool := wrongSeat p g || (decide (0 ≤ p) && (M.testBit (p + 1).toNat || g == 0))
def bitP (p : Int) : Nat := if p = -1 then 0 else 2 ^ (p + 1).toNat

theorem seat_wrong (p g : Int) (S : Nat) (h : wrongSeat p g = true) (w : World) :
    Calls Try.prog 19 #[.agg #[.int .i64 p, .int .i64 g], .pointer (some ⟨S, 0, none⟩)] w fun e w' => e = .returned (.bool true) ∧ Below w.heap.size w w' := by
  unfold wrongSeat at h
  by_cases h1 : p < -1
  · have d1 := decide_eq_true h1
    go_enter Try.func19, Try.ntmps19
    go_wp2
    go_ret
    exact ⟨rfl, (Below.refl _ w).alloc (Nat.le_refl _) _⟩
  have d1 := decide_eq_false h1
  by_cases h2 : 12 ≤ p
  · have d2 := decide_eq_true h2
    go_enter Try.func19, Try.ntmps19
    go_wp2
    go_ret
    exact ⟨rfl, (Below.refl _ w).alloc (Nat.le_refl _) _⟩
  have d2 := decide_eq_false h2
  by_cases h3 : g < 0
  · have d3 := decide_eq_true h3
    go_enter Try.func19, Try.ntmps19
    go_wp2
    go_ret
    exact ⟨rfl, (Below.refl _ w).alloc (Nat.le_refl _) _⟩
  have d3 := decide_eq_false h3
  by_cases h4 : 60000 < g
  · have d4 := decide_eq_true h4
    go_enter Try.func19, Try.ntmps19
    go_wp2
    go_ret
    exact ⟨rfl, (Below.refl _ w).alloc (Nat.le_refl _) _⟩
  have d4 := decide_eq_false h4
  rw [d1, d2, d3, d4] at h
  cases h
theorem S_frame (S : Nat) (u : Int) (o : Obj) (w : World) : Frame (fun k => k = S) w ((w.setCell ⟨S, 0, none⟩ (.int .i64 u)).alloc o) := ((Frame.refl (fun k => k = S) w).setCell (x := ⟨S, 0, none⟩) rfl _).alloc o
theorem S_fz (S : Nat) (u : Int) (o : Obj) (w : World) (hS : S < w.heap.size) (f : w.frozen? ⟨S, 0, none⟩ = false) : ((w.setCell ⟨S, 0, none⟩ (.int .i64 u)).alloc o).frozen? ⟨S, 0, none⟩ = false := by
  have h : (w.setCell ⟨S, 0, none⟩ (.int .i64 u)).frozen? ⟨S, 0, none⟩ = false := by rw [World.frozen?_setCell]; exact f
  exact (World.frozen?_of_block (Below.heap_alloc _ _ _ (by simpa using hS))).trans h
theorem bit_and_t (M i : Nat) (hM : M < 2 ^ 20) (hi : i < 20) (h : M.testBit i = true) : bits .and .i64 ((2 ^ i : Nat) : Int) (M : Int) = ((2 ^ i : Nat) : Int) := by
  rw [(i64_bits _ _ (Nat.pow_lt_pow_right (by omega) (by omega)) (by omega)).1]
  congr 1
  apply Nat.eq_of_testBit_eq; intro k
  rw [Nat.testBit_and, Nat.testBit_two_pow]
  by_cases hk : i = k
  · subst hk; simp [h]
  · simp [hk]
theorem bit_and_f (M i : Nat) (hM : M < 2 ^ 20) (hi : i < 20) (h : M.testBit i = false) : bits .and .i64 ((2 ^ i : Nat) : Int) (M : Int) = 0 := by
  rw [(i64_bits _ _ (Nat.pow_lt_pow_right (by omega) (by omega)) (by omega)).1, (pow_and M i).2 h]; rfl
theorem bit_or (M i : Nat) (hM : M < 2 ^ 20) (hi : i < 20) : bits .or .i64 (M : Int) ((2 ^ i : Nat) : Int) = ((M ||| 2 ^ i : Nat) : Int) := (i64_bits _ _ (by omega) (Nat.pow_lt_pow_right (by omega) (by omega))).2
theorem seat_m (g : Int) (S : Nat) (M : Nat) (hM : M < 2 ^ 20) (g0 : 0 ≤ g) (g1 : g ≤ 60000) (w : World) (hS : S < w.heap.size) (c : w.cell? ⟨S, 0, none⟩ = some (.int .i64 M)) (f : w.frozen? ⟨S, 0, none⟩ = false) :
    Calls Try.prog 19 #[.agg #[.int .i64 (-1), .int .i64 g], .pointer (some ⟨S, 0, none⟩)] w fun e w' => e = .returned (.bool false) ∧ w'.cell? ⟨S, 0, none⟩ = some (.int .i64 ((M : Int))) ∧ Frame (fun k => k = S) w w' ∧ w'.frozen? ⟨S, 0, none⟩ = false := by
  have e1 : bits BinOp.and IntKind.i64 1 (-2) = 0 := by decide +kernel
  have e2 : bits BinOp.and IntKind.i64 0 (M : Int) = 0 := by
    have h := (i64_bits 0 M (by decide) (by omega)).1
    rw [Nat.zero_and] at h; exact h
  have e3 : bits BinOp.or IntKind.i64 (M : Int) 0 = (M : Int) := by
    have h := (i64_bits M 0 (by omega) (by decide)).2
    rw [Nat.or_zero] at h; exact h
  go_enter Try.func19, Try.ntmps19
  go_wp2
  all_goals go_ret
  all_goals refine ⟨by simp, ?_, S_frame S _ _ w, S_fz S _ _ w hS f⟩
  all_goals go_light
  all_goals go_simp
theorem seat_0 (g : Int) (S : Nat) (M : Nat) (hM : M < 2 ^ 20) (g0 : 0 ≤ g) (g1 : g ≤ 60000) (w : World) (hS : S < w.heap.size) (c : w.cell? ⟨S, 0, none⟩ = some (.int .i64 M)) (f : w.frozen? ⟨S, 0, none⟩ = false) :
    Calls Try.prog 19 #[.agg #[.int .i64 (0), .int .i64 g], .pointer (some ⟨S, 0, none⟩)] w fun e w' => e = .returned (.bool (M.testBit 1 || g == 0)) ∧ w'.cell? ⟨S, 0, none⟩ = some (.int .i64 (((M ||| 2 : Nat) : Int))) ∧ Frame (fun k => k = S) w w' ∧ w'.frozen? ⟨S, 0, none⟩ = false := by
  have e1 : bits BinOp.and IntKind.i64 2 (-2) = 2 := by decide +kernel
  have e3 : bits BinOp.or IntKind.i64 (M : Int) 2 = ((M ||| 2 : Nat) : Int) := bit_or M 1 hM (by decide)
  cases hT : M.testBit 1
  · have e2 : bits BinOp.and IntKind.i64 2 (M : Int) = 0 := bit_and_f M 1 hM (by decide) hT
    go_enter Try.func19, Try.ntmps19
    go_wp2
    all_goals go_ret
    all_goals refine ⟨by simp_all, ?_, S_frame S _ _ w, S_fz S _ _ w hS f⟩
    all_goals go_light
    all_goals go_simp
  · have e2 : bits BinOp.and IntKind.i64 2 (M : Int) = 2 := bit_and_t M 1 hM (by decide) hT
    go_enter Try.func19, Try.ntmps19
    go_wp2
    all_goals go_ret
    all_goals refine ⟨by simp_all, ?_, S_frame S _ _ w, S_fz S _ _ w hS f⟩
    all_goals go_light
    all_goals go_simp
theorem seat_1 (g : Int) (S : Nat) (M : Nat) (hM : M < 2 ^ 20) (g0 : 0 ≤ g) (g1 : g ≤ 60000) (w : World) (hS : S < w.heap.size) (c : w.cell? ⟨S, 0, none⟩ = some (.int .i64 M)) (f : w.frozen? ⟨S, 0, none⟩ = false) :
    Calls Try.prog 19 #[.agg #[.int .i64 (1), .int .i64 g], .pointer (some ⟨S, 0, none⟩)] w fun e w' => e = .returned (.bool (M.testBit 2 || g == 0)) ∧ w'.cell? ⟨S, 0, none⟩ = some (.int .i64 (((M ||| 4 : Nat) : Int))) ∧ Frame (fun k => k = S) w w' ∧ w'.frozen? ⟨S, 0, none⟩ = false := by
  have e1 : bits BinOp.and IntKind.i64 4 (-2) = 4 := by decide +kernel
  have e3 : bits BinOp.or IntKind.i64 (M : Int) 4 = ((M ||| 4 : Nat) : Int) := bit_or M 2 hM (by decide)
  cases hT : M.testBit 2
  · have e2 : bits BinOp.and IntKind.i64 4 (M : Int) = 0 := bit_and_f M 2 hM (by decide) hT
    go_enter Try.func19, Try.ntmps19
    go_wp2
    all_goals go_ret
    all_goals refine ⟨by simp_all, ?_, S_frame S _ _ w, S_fz S _ _ w hS f⟩
    all_goals go_light
    all_goals go_simp
  · have e2 : bits BinOp.and IntKind.i64 4 (M : Int) = 4 := bit_and_t M 2 hM (by decide) hT
    go_enter Try.func19, Try.ntmps19
    go_wp2
    all_goals go_ret
    all_goals refine ⟨by simp_all, ?_, S_frame S _ _ w, S_fz S _ _ w hS f⟩
    all_goals go_light
    all_goals go_simp
theorem seat_2 (g : Int) (S : Nat) (M : Nat) (hM : M < 2 ^ 20) (g0 : 0 ≤ g) (g1 : g ≤ 60000) (w : World) (hS : S < w.heap.size) (c : w.cell? ⟨S, 0, none⟩ = some (.int .i64 M)) (f : w.frozen? ⟨S, 0, none⟩ = false) :
    Calls Try.prog 19 #[.agg #[.int .i64 (2), .int .i64 g], .pointer (some ⟨S, 0, none⟩)] w fun e w' => e = .returned (.bool (M.testBit 3 || g == 0)) ∧ w'.cell? ⟨S, 0, none⟩ = some (.int .i64 (((M ||| 8 : Nat) : Int))) ∧ Frame (fun k => k = S) w w' ∧ w'.frozen? ⟨S, 0, none⟩ = false := by
  have e1 : bits BinOp.and IntKind.i64 8 (-2) = 8 := by decide +kernel
  have e3 : bits BinOp.or IntKind.i64 (M : Int) 8 = ((M ||| 8 : Nat) : Int) := bit_or M 3 hM (by decide)
  cases hT : M.testBit 3
  · have e2 : bits BinOp.and IntKind.i64 8 (M : Int) = 0 := bit_and_f M 3 hM (by decide) hT
    go_enter Try.func19, Try.ntmps19
    go_wp2
    all_goals go_ret
    all_goals refine ⟨by simp_all, ?_, S_frame S _ _ w, S_fz S _ _ w hS f⟩
    all_goals go_light
    all_goals go_simp
  · have e2 : bits BinOp.and IntKind.i64 8 (M : Int) = 8 := bit_and_t M 3 hM (by decide) hT
    go_enter Try.func19, Try.ntmps19
    go_wp2
    all_goals go_ret
    all_goals refine ⟨by simp_all, ?_, S_frame S _ _ w, S_fz S _ _ w hS f⟩
    all_goals go_light
    all_goals go_simp
theorem seat_3 (g : Int) (S : Nat) (M : Nat) (hM : M < 2 ^ 20) (g0 : 0 ≤ g) (g1 : g ≤ 60000) (w : World) (hS : S < w.heap.size) (c : w.cell? ⟨S, 0, none⟩ = some (.int .i64 M)) (f : w.frozen? ⟨S, 0, none⟩ = false) :
    Calls Try.prog 19 #[.agg #[.int .i64 (3), .int .i64 g], .pointer (some ⟨S, 0, none⟩)] w fun e w' => e = .returned (.bool (M.testBit 4 || g == 0)) ∧ w'.cell? ⟨S, 0, none⟩ = some (.int .i64 (((M ||| 16 : Nat) : Int))) ∧ Frame (fun k => k = S) w w' ∧ w'.frozen? ⟨S, 0, none⟩ = false := by
  have e1 : bits BinOp.and IntKind.i64 16 (-2) = 16 := by decide +kernel
  have e3 : bits BinOp.or IntKind.i64 (M : Int) 16 = ((M ||| 16 : Nat) : Int) := bit_or M 4 hM (by decide)
  cases hT : M.testBit 4
  · have e2 : bits BinOp.and IntKind.i64 16 (M : Int) = 0 := bit_and_f M 4 hM (by decide) hT
    go_enter Try.func19, Try.ntmps19
    go_wp2
    all_goals go_ret
    all_goals refine ⟨by simp_all, ?_, S_frame S _ _ w, S_fz S _ _ w hS f⟩
    all_goals go_light
    all_goals go_simp
  · have e2 : bits BinOp.and IntKind.i64 16 (M : Int) = 16 := bit_and_t M 4 hM (by decide) hT
    go_enter Try.func19, Try.ntmps19
    go_wp2
    all_goals go_ret
    all_goals refine ⟨by simp_all, ?_, S_frame S _ _ w, S_fz S _ _ w hS f⟩
    all_goals go_light
    all_goals go_simp
theorem seat_4 (g : Int) (S : Nat) (M : Nat) (hM : M < 2 ^ 20) (g0 : 0 ≤ g) (g1 : g ≤ 60000) (w : World) (hS : S < w.heap.size) (c : w.cell? ⟨S, 0, none⟩ = some (.int .i64 M)) (f : w.frozen? ⟨S, 0, none⟩ = false) :
    Calls Try.prog 19 #[.agg #[.int .i64 (4), .int .i64 g], .pointer (some ⟨S, 0, none⟩)] w fun e w' => e = .returned (.bool (M.testBit 5 || g == 0)) ∧ w'.cell? ⟨S, 0, none⟩ = some (.int .i64 (((M ||| 32 : Nat) : Int))) ∧ Frame (fun k => k = S) w w' ∧ w'.frozen? ⟨S, 0, none⟩ = false := by
  have e1 : bits BinOp.and IntKind.i64 32 (-2) = 32 := by decide +kernel
  have e3 : bits BinOp.or IntKind.i64 (M : Int) 32 = ((M ||| 32 : Nat) : Int) := bit_or M 5 hM (by decide)
  cases hT : M.testBit 5
  · have e2 : bits BinOp.and IntKind.i64 32 (M : Int) = 0 := bit_and_f M 5 hM (by decide) hT
    go_enter Try.func19, Try.ntmps19
    go_wp2
    all_goals go_ret
    all_goals refine ⟨by simp_all, ?_, S_frame S _ _ w, S_fz S _ _ w hS f⟩
    all_goals go_light
    all_goals go_simp
  · have e2 : bits BinOp.and IntKind.i64 32 (M : Int) = 32 := bit_and_t M 5 hM (by decide) hT
    go_enter Try.func19, Try.ntmps19
    go_wp2
    all_goals go_ret
    all_goals refine ⟨by simp_all, ?_, S_frame S _ _ w, S_fz S _ _ w hS f⟩
    all_goals go_light
    all_goals go_simp
theorem seat_5 (g : Int) (S : Nat) (M : Nat) (hM : M < 2 ^ 20) (g0 : 0 ≤ g) (g1 : g ≤ 60000) (w : World) (hS : S < w.heap.size) (c : w.cell? ⟨S, 0, none⟩ = some (.int .i64 M)) (f : w.frozen? ⟨S, 0, none⟩ = false) :
    Calls Try.prog 19 #[.agg #[.int .i64 (5), .int .i64 g], .pointer (some ⟨S, 0, none⟩)] w fun e w' => e = .returned (.bool (M.testBit 6 || g == 0)) ∧ w'.cell? ⟨S, 0, none⟩ = some (.int .i64 (((M ||| 64 : Nat) : Int))) ∧ Frame (fun k => k = S) w w' ∧ w'.frozen? ⟨S, 0, none⟩ = false := by
  have e1 : bits BinOp.and IntKind.i64 64 (-2) = 64 := by decide +kernel
  have e3 : bits BinOp.or IntKind.i64 (M : Int) 64 = ((M ||| 64 : Nat) : Int) := bit_or M 6 hM (by decide)
  cases hT : M.testBit 6
  · have e2 : bits BinOp.and IntKind.i64 64 (M : Int) = 0 := bit_and_f M 6 hM (by decide) hT
    go_enter Try.func19, Try.ntmps19
    go_wp2
    all_goals go_ret
    all_goals refine ⟨by simp_all, ?_, S_frame S _ _ w, S_fz S _ _ w hS f⟩
    all_goals go_light
    all_goals go_simp
  · have e2 : bits BinOp.and IntKind.i64 64 (M : Int) = 64 := bit_and_t M 6 hM (by decide) hT
    go_enter Try.func19, Try.ntmps19
    go_wp2
    all_goals go_ret
    all_goals refine ⟨by simp_all, ?_, S_frame S _ _ w, S_fz S _ _ w hS f⟩
    all_goals go_light
    all_goals go_simp
theorem seat_6 (g : Int) (S : Nat) (M : Nat) (hM : M < 2 ^ 20) (g0 : 0 ≤ g) (g1 : g ≤ 60000) (w : World) (hS : S < w.heap.size) (c : w.cell? ⟨S, 0, none⟩ = some (.int .i64 M)) (f : w.frozen? ⟨S, 0, none⟩ = false) :
    Calls Try.prog 19 #[.agg #[.int .i64 (6), .int .i64 g], .pointer (some ⟨S, 0, none⟩)] w fun e w' => e = .returned (.bool (M.testBit 7 || g == 0)) ∧ w'.cell? ⟨S, 0, none⟩ = some (.int .i64 (((M ||| 128 : Nat) : Int))) ∧ Frame (fun k => k = S) w w' ∧ w'.frozen? ⟨S, 0, none⟩ = false := by
  have e1 : bits BinOp.and IntKind.i64 128 (-2) = 128 := by decide +kernel
  have e3 : bits BinOp.or IntKind.i64 (M : Int) 128 = ((M ||| 128 : Nat) : Int) := bit_or M 7 hM (by decide)
  cases hT : M.testBit 7
  · have e2 : bits BinOp.and IntKind.i64 128 (M : Int) = 0 := bit_and_f M 7 hM (by decide) hT
    go_enter Try.func19, Try.ntmps19
    go_wp2
    all_goals go_ret
    all_goals refine ⟨by simp_all, ?_, S_frame S _ _ w, S_fz S _ _ w hS f⟩
    all_goals go_light
    all_goals go_simp
  · have e2 : bits BinOp.and IntKind.i64 128 (M : Int) = 128 := bit_and_t M 7 hM (by decide) hT
    go_enter Try.func19, Try.ntmps19
    go_wp2
    all_goals go_ret
    all_goals refine ⟨by simp_all, ?_, S_frame S _ _ w, S_fz S _ _ w hS f⟩
    all_goals go_light
    all_goals go_simp
theorem seat_7 (g : Int) (S : Nat) (M : Nat) (hM : M < 2 ^ 20) (g0 : 0 ≤ g) (g1 : g ≤ 60000) (w : World) (hS : S < w.heap.size) (c : w.cell? ⟨S, 0, none⟩ = some (.int .i64 M)) (f : w.frozen? ⟨S, 0, none⟩ = false) :
    Calls Try.prog 19 #[.agg #[.int .i64 (7), .int .i64 g], .pointer (some ⟨S, 0, none⟩)] w fun e w' => e = .returned (.bool (M.testBit 8 || g == 0)) ∧ w'.cell? ⟨S, 0, none⟩ = some (.int .i64 (((M ||| 256 : Nat) : Int))) ∧ Frame (fun k => k = S) w w' ∧ w'.frozen? ⟨S, 0, none⟩ = false := by
  have e1 : bits BinOp.and IntKind.i64 256 (-2) = 256 := by decide +kernel
  have e3 : bits BinOp.or IntKind.i64 (M : Int) 256 = ((M ||| 256 : Nat) : Int) := bit_or M 8 hM (by decide)
  cases hT : M.testBit 8
  · have e2 : bits BinOp.and IntKind.i64 256 (M : Int) = 0 := bit_and_f M 8 hM (by decide) hT
    go_enter Try.func19, Try.ntmps19
    go_wp2
    all_goals go_ret
    all_goals refine ⟨by simp_all, ?_, S_frame S _ _ w, S_fz S _ _ w hS f⟩
    all_goals go_light
    all_goals go_simp
  · have e2 : bits BinOp.and IntKind.i64 256 (M : Int) = 256 := bit_and_t M 8 hM (by decide) hT
    go_enter Try.func19, Try.ntmps19
    go_wp2
    all_goals go_ret
    all_goals refine ⟨by simp_all, ?_, S_frame S _ _ w, S_fz S _ _ w hS f⟩
    all_goals go_light
    all_goals go_simp
theorem seat_8 (g : Int) (S : Nat) (M : Nat) (hM : M < 2 ^ 20) (g0 : 0 ≤ g) (g1 : g ≤ 60000) (w : World) (hS : S < w.heap.size) (c : w.cell? ⟨S, 0, none⟩ = some (.int .i64 M)) (f : w.frozen? ⟨S, 0, none⟩ = false) :
    Calls Try.prog 19 #[.agg #[.int .i64 (8), .int .i64 g], .pointer (some ⟨S, 0, none⟩)] w fun e w' => e = .returned (.bool (M.testBit 9 || g == 0)) ∧ w'.cell? ⟨S, 0, none⟩ = some (.int .i64 (((M ||| 512 : Nat) : Int))) ∧ Frame (fun k => k = S) w w' ∧ w'.frozen? ⟨S, 0, none⟩ = false := by
  have e1 : bits BinOp.and IntKind.i64 512 (-2) = 512 := by decide +kernel
  have e3 : bits BinOp.or IntKind.i64 (M : Int) 512 = ((M ||| 512 : Nat) : Int) := bit_or M 9 hM (by decide)
  cases hT : M.testBit 9
  · have e2 : bits BinOp.and IntKind.i64 512 (M : Int) = 0 := bit_and_f M 9 hM (by decide) hT
    go_enter Try.func19, Try.ntmps19
    go_wp2
    all_goals go_ret
    all_goals refine ⟨by simp_all, ?_, S_frame S _ _ w, S_fz S _ _ w hS f⟩
    all_goals go_light
    all_goals go_simp
  · have e2 : bits BinOp.and IntKind.i64 512 (M : Int) = 512 := bit_and_t M 9 hM (by decide) hT
    go_enter Try.func19, Try.ntmps19
    go_wp2
    all_goals go_ret
    all_goals refine ⟨by simp_all, ?_, S_frame S _ _ w, S_fz S _ _ w hS f⟩
    all_goals go_light
    all_goals go_simp
theorem seat_9 (g : Int) (S : Nat) (M : Nat) (hM : M < 2 ^ 20) (g0 : 0 ≤ g) (g1 : g ≤ 60000) (w : World) (hS : S < w.heap.size) (c : w.cell? ⟨S, 0, none⟩ = some (.int .i64 M)) (f : w.frozen? ⟨S, 0, none⟩ = false) :
    Calls Try.prog 19 #[.agg #[.int .i64 (9), .int .i64 g], .pointer (some ⟨S, 0, none⟩)] w fun e w' => e = .returned (.bool (M.testBit 10 || g == 0)) ∧ w'.cell? ⟨S, 0, none⟩ = some (.int .i64 (((M ||| 1024 : Nat) : Int))) ∧ Frame (fun k => k = S) w w' ∧ w'.frozen? ⟨S, 0, none⟩ = false := by
  have e1 : bits BinOp.and IntKind.i64 1024 (-2) = 1024 := by decide +kernel
  have e3 : bits BinOp.or IntKind.i64 (M : Int) 1024 = ((M ||| 1024 : Nat) : Int) := bit_or M 10 hM (by decide)
  cases hT : M.testBit 10
  · have e2 : bits BinOp.and IntKind.i64 1024 (M : Int) = 0 := bit_and_f M 10 hM (by decide) hT
    go_enter Try.func19, Try.ntmps19
    go_wp2
    all_goals go_ret
    all_goals refine ⟨by simp_all, ?_, S_frame S _ _ w, S_fz S _ _ w hS f⟩
    all_goals go_light
    all_goals go_simp
  · have e2 : bits BinOp.and IntKind.i64 1024 (M : Int) = 1024 := bit_and_t M 10 hM (by decide) hT
    go_enter Try.func19, Try.ntmps19
    go_wp2
    all_goals go_ret
    all_goals refine ⟨by simp_all, ?_, S_frame S _ _ w, S_fz S _ _ w hS f⟩
    all_goals go_light
    all_goals go_simp
theorem seat_10 (g : Int) (S : Nat) (M : Nat) (hM : M < 2 ^ 20) (g0 : 0 ≤ g) (g1 : g ≤ 60000) (w : World) (hS : S < w.heap.size) (c : w.cell? ⟨S, 0, none⟩ = some (.int .i64 M)) (f : w.frozen? ⟨S, 0, none⟩ = false) :
    Calls Try.prog 19 #[.agg #[.int .i64 (10), .int .i64 g], .pointer (some ⟨S, 0, none⟩)] w fun e w' => e = .returned (.bool (M.testBit 11 || g == 0)) ∧ w'.cell? ⟨S, 0, none⟩ = some (.int .i64 (((M ||| 2048 : Nat) : Int))) ∧ Frame (fun k => k = S) w w' ∧ w'.frozen? ⟨S, 0, none⟩ = false := by
  have e1 : bits BinOp.and IntKind.i64 2048 (-2) = 2048 := by decide +kernel
  have e3 : bits BinOp.or IntKind.i64 (M : Int) 2048 = ((M ||| 2048 : Nat) : Int) := bit_or M 11 hM (by decide)
  cases hT : M.testBit 11
  · have e2 : bits BinOp.and IntKind.i64 2048 (M : Int) = 0 := bit_and_f M 11 hM (by decide) hT
    go_enter Try.func19, Try.ntmps19
    go_wp2
    all_goals go_ret
    all_goals refine ⟨by simp_all, ?_, S_frame S _ _ w, S_fz S _ _ w hS f⟩
    all_goals go_light
    all_goals go_simp
  · have e2 : bits BinOp.and IntKind.i64 2048 (M : Int) = 2048 := bit_and_t M 11 hM (by decide) hT
    go_enter Try.func19, Try.ntmps19
    go_wp2
    all_goals go_ret
    all_goals refine ⟨by simp_all, ?_, S_frame S _ _ w, S_fz S _ _ w hS f⟩
    all_goals go_light
    all_goals go_simp
theorem seat_11 (g : Int) (S : Nat) (M : Nat) (hM : M < 2 ^ 20) (g0 : 0 ≤ g) (g1 : g ≤ 60000) (w : World) (hS : S < w.heap.size) (c : w.cell? ⟨S, 0, none⟩ = some (.int .i64 M)) (f : w.frozen? ⟨S, 0, none⟩ = false) :
    Calls Try.prog 19 #[.agg #[.int .i64 (11), .int .i64 g], .pointer (some ⟨S, 0, none⟩)] w fun e w' => e = .returned (.bool (M.testBit 12 || g == 0)) ∧ w'.cell? ⟨S, 0, none⟩ = some (.int .i64 (((M ||| 4096 : Nat) : Int))) ∧ Frame (fun k => k = S) w w' ∧ w'.frozen? ⟨S, 0, none⟩ = false := by
  have e1 : bits BinOp.and IntKind.i64 4096 (-2) = 4096 := by decide +kernel
  have e3 : bits BinOp.or IntKind.i64 (M : Int) 4096 = ((M ||| 4096 : Nat) : Int) := bit_or M 12 hM (by decide)
  cases hT : M.testBit 12
  · have e2 : bits BinOp.and IntKind.i64 4096 (M : Int) = 0 := bit_and_f M 12 hM (by decide) hT
    go_enter Try.func19, Try.ntmps19
    go_wp2
    all_goals go_ret
    all_goals refine ⟨by simp_all, ?_, S_frame S _ _ w, S_fz S _ _ w hS f⟩
    all_goals go_light
    all_goals go_simp
  · have e2 : bits BinOp.and IntKind.i64 4096 (M : Int) = 4096 := bit_and_t M 12 hM (by decide) hT
    go_enter Try.func19, Try.ntmps19
    go_wp2
    all_goals go_ret
    all_goals refine ⟨by simp_all, ?_, S_frame S _ _ w, S_fz S _ _ w hS f⟩
    all_goals go_light
    all_goals go_simp
theorem seat_ok (p g : Int) (S : Nat) (M : Nat) (hM : M < 2 ^ 20) (hw : wrongSeat p g = false) (w : World) (hS : S < w.heap.size) (c : w.cell? ⟨S, 0, none⟩ = some (.int .i64 M)) (f : w.frozen? ⟨S, 0, none⟩ = false) :
    Calls Try.prog 19 #[.agg #[.int .i64 p, .int .i64 g], .pointer (some ⟨S, 0, none⟩)] w fun e w' => e = .returned (.bool (badSeat p g M)) ∧ w'.cell? ⟨S, 0, none⟩ = some (.int .i64 ((M ||| bitP p : Nat) : Int)) ∧ Frame (fun k => k = S) w w' ∧ w'.frozen? ⟨S, 0, none⟩ = false := by
  have hw' := hw
  unfold wrongSeat at hw
  simp only [Bool.or_eq_false_iff, decide_eq_false_iff_not] at hw
  obtain ⟨⟨⟨h1, h2⟩, h3⟩, h4⟩ := hw
  unfold badSeat
  rw [hw', Bool.false_or]
  rcases (by omega : p = -1 ∨ p = 0 ∨ p = 1 ∨ p = 2 ∨ p = 3 ∨ p = 4 ∨ p = 5 ∨ p = 6 ∨ p = 7 ∨ p = 8 ∨ p = 9 ∨ p = 10 ∨ p = 11) with rfl | rfl | rfl | rfl | rfl | rfl | rfl | rfl | rfl | rfl | rfl | rfl | rfl
  · refine (seat_m g S M hM (by omega) (by omega) w hS c f).mono ?_
    rintro e w' ⟨rfl, h5, h6⟩
    exact ⟨rfl, by rw [h5]; show _ = some (Value.int .i64 ((M ||| 0 : Nat) : Int)); rw [Nat.or_zero], h6⟩
  · exact seat_0 g S M hM (by omega) (by omega) w hS c f
  · exact seat_1 g S M hM (by omega) (by omega) w hS c f
  · exact seat_2 g S M hM (by omega) (by omega) w hS c f
  · exact seat_3 g S M hM (by omega) (by omega) w hS c f
  · exact seat_4 g S M hM (by omega) (by omega) w hS c f
  · exact seat_5 g S M hM (by omega) (by omega) w hS c f
  · exact seat_6 g S M hM (by omega) (by omega) w hS c f
  · exact seat_7 g S M hM (by omega) (by omega) w hS c f
  · exact seat_8 g S M hM (by omega) (by omega) w hS c f
  · exact seat_9 g S M hM (by omega) (by omega) w hS c f
  · exact seat_10 g S M hM (by omega) (by omega) w hS c f
  · exact seat_11 g S M hM (by omega) (by omega) w hS c f
end Go.Proofs.Ythjabcogbjdkiaa
