/-
  Queue: the contracts of New and of a queue that is none; rows of bools; two contracts of Put for each answer.
-/
import Derived.Test.YtabgooglfgioiaaE
namespace Go.Proofs.Ytabgooglfgioiaa
set_option linter.unusedVariables false
open Go.ChangeShapes Go.WideShapes Go.ChangeAt Go.RowKit

/-- A new queue. -/
def NewQ (w : World) (f x y z : Int) (e : Ending) (w' : World) : Prop :=
  ∃ b M, e = .returned (.pointer (some ⟨b, 0, none⟩)) ∧ QAt w' b M 0 f x y z (fun _ => none) ∧ w.heap.size ≤ b ∧ w.heap.size ≤ M ∧ Below w.heap.size w w'

theorem new_any (f x y z : Int) (w : World) : Calls Try.prog 7 #[.int .i64 f, .agg #[.int .i8 x, .int .i8 y, .int .u8 z]] w (NewQ w f x y z) := by
  have hmm := @run_makeMap Try.prog
  go_enter Try.func7, Try.ntmps7
  go_wp2
  go_ret
  have hmk : MapAt Try.prog 3 (((w.alloc (Obj.cells #[.int .i8 x, .int .i8 y, .int .u8 z] 24)).alloc (.map #[] 0)).alloc (Obj.cells #[.int .i64 f, .int .i8 x, .int .i8 y, .int .u8 z, .map (some (w.heap.size + 1))] 50)) (w.heap.size + 1) 0 (fun _ => none) := by
    have h := mapAt_made Try.prog 3 (w.alloc (Obj.cells #[.int .i8 x, .int .i8 y, .int .u8 z] 24))
    have h2 := h.block (Below.heap_alloc _ (Obj.cells #[.int .i64 f, .int .i8 x, .int .i8 y, .int .u8 z, .map (some (w.heap.size + 1))] 50) _ h.lt)
    simpa using h2
  refine ⟨w.heap.size + 2, w.heap.size + 1, rfl, ⟨?_, ?_, ?_, ?_, ?_, ?_, ?_, ?_, ?_, ?_, hmk, by omega, Ins.none⟩, by omega, by omega, ?_⟩
  rotate_right 1
  · (repeat (first | exact Below.refl _ _ | refine Below.alloc ?_ (by simp; try omega) _))
  all_goals go_simp

theorem at_nil (fr : Int) (w : World) : Calls Try.prog 9 #[.pointer none, .int .i64 fr] w fun e w' => e = .returned (.tuple #[.agg #[.int .i8 0, .int .i8 0, .int .u8 0], .bool false]) ∧ Below w.heap.size w w' := by
  go_enter Try.func9, Try.ntmps9
  go_wp2
  refine bodyPost_ret (v := .tuple #[.agg #[.int .i8 0, .int .i8 0, .int .u8 0], .bool false]) (by simp [results, Try.results9, go_sem]) rfl ⟨rfl, ?_⟩
  (repeat (first | exact Below.refl _ _ | refine Below.alloc ?_ (by simp) _ | refine Below.setCell ?_ (by simp) _))
theorem put_nil (fr i j k : Int) (w : World) : Calls Try.prog 10 #[.pointer none, .int .i64 fr, .agg #[.int .i8 i, .int .i8 j, .int .u8 k]] w fun e w' => e = .returned (.bool false) ∧ Below w.heap.size w w' := by
  go_enter Try.func10, Try.ntmps10
  go_wp2
  go_ret
  refine ⟨rfl, ?_⟩
  (repeat (first | exact Below.refl _ _ | refine Below.alloc ?_ (by simp) _ | refine Below.setCell ?_ (by simp) _))
theorem from_nil (w : World) : Calls Try.prog 12 #[.pointer none] w fun e w' => e = .returned (.int .i64 0) ∧ w = w' := by
  go_enter Try.func12, Try.ntmps12
  go_wp2
  go_ret
  exact ⟨rfl, rfl⟩
theorem known_nil (w : World) : Calls Try.prog 11 #[.pointer none] w fun e w' => e = .returned (.int .i64 0) ∧ w = w' := by
  go_enter Try.func11, Try.ntmps11
  go_wp2
  go_ret
  exact ⟨rfl, rfl⟩

/-- n bools in memory. -/
structure BoolsAt (w : World) (b o n : Nat) (c : Nat → Bool) : Prop where
  cell : ∀ k, k < n → w.cell? ⟨b, o + k, none⟩ = some (.bool (c k))
  frozen : ∀ k, k < n → w.frozen? ⟨b, o + k, none⟩ = false
def upd (c : Nat → Bool) (k : Nat) (v : Bool) : Nat → Bool := fun j => if j = k then v else c j
theorem BoolsAt.block {w w' : World} {b o n : Nat} {c : Nat → Bool} (h : BoolsAt w b o n c) (hb : w'.heap[b]? = w.heap[b]?) : BoolsAt w' b o n c :=
  ⟨fun i hi => (World.cell?_of_block (a := ⟨b, o + i, none⟩) hb).trans (h.cell i hi), fun i hi => (World.frozen?_of_block (a := ⟨b, o + i, none⟩) hb).trans (h.frozen i hi)⟩
theorem BoolsAt.set {w : World} {b o n : Nat} {c : Nat → Bool} (h : BoolsAt w b o n c) (k : Nat) (hk : k < n) (v : Bool) : BoolsAt (w.setCell ⟨b, o + k, none⟩ (.bool v)) b o n (upd c k v) := by
  constructor
  · intro i hi
    by_cases e : i = k
    · subst e
      simp only [upd, if_pos]
      have := h.cell i hi
      go_simp
    · have := h.cell i hi
      rw [World.cell?_setCell_other _ _ _ _ (by first | (simp; done) | (simp; omega))]
      simp only [upd, if_neg e]
      exact this
  · intro i hi
    rw [World.frozen?_setCell]
    exact h.frozen i hi
theorem boolsAt_new (w : World) (xs : Array Value) (T : TypeId) (n : Nat) (h : ∀ k, k < n → xs[k]? = some (.bool false)) : BoolsAt (w.alloc (.cells xs T)) w.heap.size 0 n (fun _ => false) := by
  constructor
  · intro k hk
    rw [Nat.zero_add, World.cell?_alloc_new]; exact h k hk
  · intro k hk
    rw [World.frozen?_alloc_new]
theorem BoolsAt.lt {w : World} {b o n : Nat} {c : Nat → Bool} (h : BoolsAt w b o n c) (hn : 0 < n) : b < w.heap.size := cell_lt (h.cell 0 hn)

theorem kcell {S : Nat → Prop} {w w' : World} (h : Kept S w w') : (∀ b o, b < w.heap.size → ¬ S b → w'.cell? ⟨b, o, none⟩ = w.cell? ⟨b, o, none⟩) ∧ (∀ b o, b < w.heap.size → ¬ S b → w'.frozen? ⟨b, o, none⟩ = w.frozen? ⟨b, o, none⟩) :=
  ⟨fun b o h1 h2 => h.cell (p := ⟨b, o, none⟩) h2 h1, fun b o h1 h2 => h.frozen (p := ⟨b, o, none⟩) h2 h1⟩

/-- Put at a frame that may be known: its answer, and what is behind it. -/
def putG (g : Int → Option Value) (fr : Int) (v : Value) : Int → Option Value := if (g fr).isSome then g else updM g fr (some v)
theorem put_near (b M n : Nat) (f x y z : Int) (g : Int → Option Value) (fr i j k : Int) (w : World) (h : QAt w b M n f x y z g) (hm : -127 ≤ i ∧ -127 ≤ j) (f0 : 0 ≤ f) (f1 : f ≤ 1000000) (h0 : f ≤ fr) (h1 : fr ≤ f + 63) (hnm : n < 1000000) :
    Calls Try.prog 10 #[.pointer (some ⟨b, 0, none⟩), .int .i64 fr, .agg #[.int .i8 i, .int .i8 j, .int .u8 k]] w fun e w' => e = .returned (.bool (!(g fr).isSome)) ∧ QAt w' b M (n + 1) f x y z (putG g fr (inV i j k)) ∧ Kept (fun k => k = M) w w' := by
  have hm' : (decide (-127 ≤ i) && decide (-127 ≤ j)) = true := by simp [hm.1, hm.2]
  have hn : nearB f fr = true := by unfold nearB; simp; omega
  cases hg : g fr with
  | none =>
    refine (put_yes b M n f x y z g fr i j k w h hm' f0 f1 (by omega) (by omega) hn hg (by unfold maxLen; omega)).mono ?_
    rintro e w' ⟨rfl, h1, h2⟩
    unfold putG
    rw [hg]
    exact ⟨rfl, h1, h2⟩
  | some v =>
    obtain ⟨p, q, r, rfl⟩ := h.vals fr v hg
    refine (put_no3 b M n f x y z g fr i j k w h hm' f0 f1 (by omega) (by omega) hn p q r hg).mono ?_
    rintro e w' ⟨rfl, hB⟩
    have hk : Kept (fun _ => False) w w' := Kept.of_below hB
    have hq := h.kept hk (by simp) (by simp)
    unfold putG
    rw [hg]
    obtain ⟨c0, c1, c2, c3, c4, f0, f1, f2, f3, f4, ⟨D, hD, hr⟩, hne, hv⟩ := hq
    exact ⟨rfl, ⟨c0, c1, c2, c3, c4, f0, f1, f2, f3, f4, ⟨D, hD.mono (Nat.le_succ n), hr⟩, hne, hv⟩, hk.mono (fun _ h => h.elim)⟩
end Go.Proofs.Ytabgooglfgioiaa
