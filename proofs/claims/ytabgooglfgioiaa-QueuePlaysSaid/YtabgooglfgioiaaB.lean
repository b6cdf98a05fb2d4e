/-
  Queue: what a queue is in memory; the contracts of stick.May and of a queue's near.
-/
import Derived.Test.YtabgooglfgioiaaA
namespace Go.Proofs.Ytabgooglfgioiaa
set_option linter.unusedVariables false
open Go.ChangeShapes Go.WideShapes Go.ChangeAt Go.RowKit

/-- Of the blocks that were, only those of S may have changed. -/
structure Kept (S : Nat → Prop) (w w' : World) : Prop where
  os : w'.os = w.os
  tape : w'.tape = w.tape
  output : w'.output = w.output
  size : w.heap.size ≤ w'.heap.size
  block : ∀ k, k < w.heap.size → ¬ S k → w'.heap[k]? = w.heap[k]?

section
variable {S : Nat → Prop} {w w' x y z : World}
theorem Kept.refl (S : Nat → Prop) (w : World) : Kept S w w := ⟨rfl, rfl, rfl, Nat.le_refl _, fun _ _ _ => rfl⟩
theorem Kept.trans (h : Kept S x y) (k : Kept S y z) : Kept S x z :=
  ⟨k.os.trans h.os, k.tape.trans h.tape, k.output.trans h.output, Nat.le_trans h.size k.size, fun i hi hb => (k.block i (Nat.lt_of_lt_of_le hi h.size) hb).trans (h.block i hi hb)⟩
theorem Kept.mono {T : Nat → Prop} (h : Kept S x y) (hs : ∀ k, S k → T k) : Kept T x y :=
  ⟨h.os, h.tape, h.output, h.size, fun k hk hb => h.block k hk (fun hS => hb (hs k hS))⟩
theorem Kept.drewN (h : Kept S x y) (n : Nat) : Kept S x (y.drewN n) := ⟨h.os, h.tape, h.output, h.size, h.block⟩
theorem Kept.drew (h : Kept S x y) : Kept S x y.drew := ⟨h.os, h.tape, h.output, h.size, h.block⟩
theorem Kept.alloc (h : Kept S x y) (o : Obj) : Kept S x (y.alloc o) :=
  h.trans ⟨rfl, rfl, rfl, by simp, fun k hk _ => Below.heap_alloc _ _ _ hk⟩
theorem Kept.setCell (h : Kept S x y) {p : Addr} (hp : S p.block ∨ x.heap.size ≤ p.block) (u : Value) : Kept S x (y.setCell p u) :=
  ⟨h.os, h.tape, h.output, by simpa [World.setCell] using h.size, fun k hk hb => (Below.heap_setCell _ _ _ _ (by
    rintro rfl
    rcases hp with hp | hp
    · exact hb hp
    · omega)).trans (h.block k hk hb)⟩
theorem Kept.grown (h : Kept S x y) {b : Nat} (g : y.grownBy z (some b)) (hb : S b ∨ x.heap.size ≤ b) : Kept S x z :=
  ⟨g.os.trans h.os, g.tape.trans h.tape, g.output.trans h.output, Nat.le_trans h.size g.size, fun k hk hS => (g.block k (Nat.lt_of_lt_of_le hk h.size) (by
    intro e; injection e with e; subst e
    rcases hb with hb | hb
    · exact hS hb
    · omega)).trans (h.block k hk hS)⟩
theorem Kept.cell (h : Kept S x y) {p : Addr} (hb : ¬ S p.block) (hp : p.block < x.heap.size) : y.cell? p = x.cell? p := World.cell?_of_block (w := x) (h.block p.block hp hb)
theorem Kept.frozen (h : Kept S x y) {p : Addr} (hb : ¬ S p.block) (hp : p.block < x.heap.size) : y.frozen? p = x.frozen? p := World.frozen?_of_block (w := x) (h.block p.block hp hb)
theorem Kept.below {B : Nat} (h : Kept S x y) (hS : ∀ k, S k → B ≤ k) (hB : B ≤ x.heap.size) : Below B x y :=
  ⟨h.os, h.tape, h.output, h.size, fun k hk => h.block k (by omega) (fun hs => by have := hS k hs; omega)⟩
theorem Kept.of_below (h : Below x.heap.size x y) : Kept S x y := ⟨h.os, h.tape, h.output, h.size, fun k hk _ => h.block k hk⟩
end

theorem cell_lt {w : World} {b o : Nat} {v : Value} (h : w.cell? ⟨b, o, none⟩ = some v) : b < w.heap.size := by
  cases Nat.lt_or_ge b w.heap.size with
  | inl hl => exact hl
  | inr hg =>
    have : w.heap[b]? = none := Array.getElem?_eq_none (by omega)
    simp [World.cell?, this] at h

theorem ret_bool {a b : Bool} (h : a = b) : Ending.returned (.bool a) = .returned (.bool b) := by rw [h]
theorem ret_int {k : IntKind} {a b : Int} (h : a = b) : Ending.returned (.int k a) = .returned (.int k b) := by rw [h]

/-- An input. -/
def inV (x y z : Int) : Value := .agg #[.int .i8 x, .int .i8 y, .int .u8 z]

theorem may_any (x y z : Int) (w : World) :
    Calls Try.prog 20 #[.agg #[.int .i8 x, .int .i8 y, .int .u8 z]] w fun e w' => e = .returned (.bool (decide (-127 ≤ x) && decide (-127 ≤ y))) ∧ w' = w.alloc (.cells #[.int .i8 x, .int .i8 y, .int .u8 z] 24) := by
  go_enter Try.func20, Try.ntmps20
  go_wp2
  all_goals go_ret
  all_goals (refine ⟨ret_bool ?_, rfl⟩; simp_all; try (intros; omega))

/-- All that is held are inputs. -/
def Ins (g : Int → Option Value) : Prop := ∀ k v, g k = some v → ∃ i j l, v = inV i j l
theorem Ins.upd {g : Int → Option Value} (h : Ins g) (k i j l : Int) : Ins (updM g k (some (inV i j l))) := by
  intro a v hv
  unfold updM at hv
  split at hv
  · injection hv with e; exact ⟨i, j, l, e.symm⟩
  · exact h a v hv
theorem Ins.del {g : Int → Option Value} (h : Ins g) (k : Int) : Ins (updM g k none) := by
  intro a v hv
  unfold updM at hv
  split at hv
  · cases hv
  · exact h a v hv
theorem Ins.none : Ins (fun _ => none) := fun _ _ h => by cases h
/-- A queue in memory. -/
structure QAt (w : World) (b M n : Nat) (f x y z : Int) (g : Int → Option Value) : Prop where
  c0 : w.cell? ⟨b, 0, none⟩ = some (.int .i64 f)
  c1 : w.cell? ⟨b, 1, none⟩ = some (.int .i8 x)
  c2 : w.cell? ⟨b, 2, none⟩ = some (.int .i8 y)
  c3 : w.cell? ⟨b, 3, none⟩ = some (.int .u8 z)
  c4 : w.cell? ⟨b, 4, none⟩ = some (.map (some M))
  f0 : w.frozen? ⟨b, 0, none⟩ = false
  f1 : w.frozen? ⟨b, 1, none⟩ = false
  f2 : w.frozen? ⟨b, 2, none⟩ = false
  f3 : w.frozen? ⟨b, 3, none⟩ = false
  f4 : w.frozen? ⟨b, 4, none⟩ = false
  map : MapAt Try.prog 3 w M n g
  ne : b ≠ M
  vals : Ins g

def nearB (f frame : Int) : Bool := decide (f ≤ frame) && decide (frame ≤ f + 63)
theorem near_any (b : Nat) (f frame : Int) (w : World) (c0 : w.cell? ⟨b, 0, none⟩ = some (.int .i64 f)) (f0 : 0 ≤ f) (f1 : f ≤ 1000000) (h0 : -9223372036854775808 ≤ frame) (h1 : frame ≤ 9223372036854775807) :
    Calls Try.prog 19 #[.pointer (some ⟨b, 0, none⟩), .int .i64 frame] w fun e w' => e = .returned (.bool (nearB f frame)) ∧ w = w' := by
  unfold nearB
  by_cases hf : f ≤ frame
  · have e1 : IntKind.u64.wrap frame = frame := by simp [IntKind.wrap, IntKind.bits, IntKind.signed]; omega
    have e2 : IntKind.u64.wrap f = f := by simp [IntKind.wrap, IntKind.bits, IntKind.signed]; omega
    have e3 : IntKind.u64.wrap (frame - f) = frame - f := by simp [IntKind.wrap, IntKind.bits, IntKind.signed]; omega
    go_enter Try.func19, Try.ntmps19
    go_wp2
    all_goals go_ret
    all_goals (refine ⟨ret_bool ?_, rfl⟩; simp_all; try omega)
  · go_enter Try.func19, Try.ntmps19
    go_wp2
    all_goals go_ret
    all_goals (refine ⟨ret_bool ?_, rfl⟩; simp_all; try omega)
end Go.Proofs.Ytabgooglfgioiaa
