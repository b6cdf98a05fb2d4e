/-
  Stats: a slice of floats that came in; what the reference's Add does.
-/
import Derived.Test.YtoefnagenooaiaaH
import Derived.Deep.Slices
namespace Go.Proofs.Ytoefnagenooaiaa
set_option linter.unusedVariables false
open Go.ChangeShapes Go.WideShapes Go.ChangeAt Go.RowKit
attribute [local go_sem] run_neg_f64 frombits_run bits_run run_store_float


/-- A slice of floats that came in. -/
def IsFRow (w : World) (v : Value) : Prop := ∃ a len cap, v = .slice a len cap ∧ len ≤ maxLen ∧ (0 < len → ∃ b o, ∃ z : Nat → Nat, a = some ⟨b, o, none⟩ ∧ b < w.heap.size ∧ ∀ i, i < len → w.cell? ⟨b, o + i, none⟩ = some (.float .f64 (z i)) ∧ z i < 18446744073709551616)
theorem trod_f64 {H : Type} {enc : TypeId × Value → H} {w : World} {base : Nat} {spare : Nat → Bool} {held : Bool} {n : Nat} {t : TypeId} {v : Value} {x : DataW H × List MemPlace} (ht : Try.prog.underlying t = some (.float .f64)) (h : DataW.trod enc Try.prog w base spare held n t [v] = some x) : ∃ z, v = .float .f64 z ∧ z < 18446744073709551616 := by
  cases n with
  | zero => simp [DataW.trod] at h
  | succ n =>
    simp only [DataW.trod, ht] at h
    split at h
    all_goals first
      | (rename_i e1 e2; cases e1; done)
      | (rename_i e1; cases e1; done)
      | skip
    all_goals first
      | (simp at h; done)
      | skip
    · rename_i e1 e2
      simp at e1 e2
      subst e1 e2
      split at h
      · rename_i hh
        obtain ⟨rfl, hw⟩ := hh
        exact ⟨_, rfl, by simpa [Lit.wf] using hw⟩
      · simp at h
theorem open_frow {H : Type} {enc : TypeId × Value → H} {W : World} {b0 : Nat} {v : Value} {d : DataW H} {p : List MemPlace} (hv : Value.okWide Try.prog W .any b0 22 v) (h : DataW.Trod enc Try.prog W 0 (fun _ => true) true 22 v d p) : IsFRow W v := by
  obtain ⟨a, len, cap, rfl⟩ := okWide_slice Try.underlying22 hv
  obtain ⟨fuel, hf⟩ := h
  rcases Deep.open_slice1 Try.underlying22 (by kernel_rfl) hf with ⟨hcs, _⟩ | ⟨x, l, c, m, n, V, D, Pl, hcs, _, hl, hm, hmm, _, hx⟩
  · simp [Value.cells] at hcs
    obtain ⟨rfl, rfl, rfl⟩ := hcs
    exact ⟨none, 0, 0, rfl, Nat.zero_le _, fun h => absurd h (by omega)⟩
  · simp [Value.cells] at hcs
    obtain ⟨rfl, rfl, rfl⟩ := hcs
    refine ⟨_, _, _, rfl, by omega, fun h0 => ?_⟩
    have hmc : m = cap := by simpa using hmm
    have each : ∀ i, i < len → ∃ z, W.cell? (x.add i) = some (.float .f64 z) ∧ z < 18446744073709551616 := fun i hi => by
      obtain ⟨h1, h2⟩ := hx i (by omega)
      obtain ⟨z, hz, hb⟩ := trod_f64 Try.underlying23 h2
      exact ⟨z, by rw [h1, hz], hb⟩
    obtain ⟨b, o, s⟩ := x
    obtain ⟨z0, hz0, _⟩ := each 0 h0
    have hs : s = none := by simpa [Addr.add] using World.cell?_spot hz0
    subst hs
    rw [Go.WideShapes.add_plain] at hz0
    have each2 : ∀ i, i < len → ∃ z, W.cell? ⟨b, o + i, none⟩ = some (.float .f64 z) ∧ z < 18446744073709551616 := fun i hi => by
      have := each i hi
      rwa [Go.WideShapes.add_plain] at this
    refine ⟨b, o, fun i => if hi : i < len then (each2 i hi).choose else 0, rfl, block_of_cell hz0, fun i hi => ?_⟩
    simp only [hi, dif_pos]
    exact (each2 i hi).choose_spec
set_option maxHeartbeats 1000000 in
theorem radd_bad1 (b : Nat) (f : Nat) (t1 : (fo f f != some .eq) = true) (w : World) :
    Calls Try.prog 12 #[.pointer (some ⟨b, 0, none⟩), .float .f64 f] w fun e w' => e = .returned (.bool false) ∧ w = w' := by
  go_enter Try.func12, Try.ntmps12
  go_wp2_with fail
  refine (rnan_any _ _).mono ?_
  rintro e w' ⟨rfl, rfl⟩
  rw [t1]
  go_wp2_with fail
  go_ret
  exact ⟨rfl, rfl⟩
set_option maxHeartbeats 1000000 in
theorem radd_bad2 (b : Nat) (f : Nat) (t1 : (fo f f != some .eq) = false) (t2 : (fo f 9218868437227405311 == some .gt) = true) (w : World) :
    Calls Try.prog 12 #[.pointer (some ⟨b, 0, none⟩), .float .f64 f] w fun e w' => e = .returned (.bool false) ∧ w = w' := by
  go_enter Try.func12, Try.ntmps12
  go_wp2_with fail
  refine (rnan_any _ _).mono ?_
  rintro e w' ⟨rfl, rfl⟩
  rw [t1]
  go_wp2_with fail
  go_ret
  exact ⟨rfl, rfl⟩
set_option maxHeartbeats 1000000 in
theorem radd_bad3 (b : Nat) (f : Nat) (t1 : (fo f f != some .eq) = false) (t2 : (fo f 9218868437227405311 == some .gt) = false) (t3 : (fo f 0 == some .lt) = true) (w : World) :
    Calls Try.prog 12 #[.pointer (some ⟨b, 0, none⟩), .float .f64 f] w fun e w' => e = .returned (.bool false) ∧ w = w' := by
  go_enter Try.func12, Try.ntmps12
  go_wp2_with fail
  refine (rnan_any _ _).mono ?_
  rintro e w' ⟨rfl, rfl⟩
  rw [t1]
  go_wp2_with fail
  go_ret
  exact ⟨rfl, rfl⟩
set_option maxHeartbeats 1000000 in
theorem radd_first0 (b : Nat) (n : Int) (m s l h : Nat) (f : Nat) (n0 : n = 0) (hf : f < 18446744073709551616) (ff : FK.rg f = 0) (t1 : (fo f f != some .eq) = false) (t2 : (fo f 9218868437227405311 == some .gt) = false) (t3 : (fo f 0 == some .lt) = false) (t4 : (fo f 0 == some .eq) = true) (w : World) (a : LineAt w b n m s l h) :
    Calls Try.prog 12 #[.pointer (some ⟨b, 0, none⟩), .float .f64 f] w fun e w' => e = .returned (.bool true) ∧ LineAt w' b 1 0 0 0 0 ∧ Only b w w' := by
  obtain ⟨c0, c1, c2, c3, c4, f0, f1, f2, f3, f4⟩ := a
  have HF := Lib.hid hf
  have FF := Lib.hid ff
  clear hf ff
  subst n0
  go_enter Try.func12, Try.ntmps12
  go_wp2_with fail
  refine (rnan_any _ _).mono ?_
  rintro e w' ⟨rfl, rfl⟩
  rw [t1]
  go_wp2_with fail
  refine (abs_any _ HF.out _).mono ?_
  rintro e w' ⟨rfl, rfl⟩
  rw [FF.out]
  go_wp2_with fail
  all_goals (go_ret)
  all_goals refine ⟨rfl, lineAt_of ?_ ?_ ?_ ?_ ?_ ?_ ?_ ?_ ?_ ?_, ?_⟩
  all_goals go_light
  all_goals first | (go_simp; done) | (repeat (first | exact Only.refl _ _ | refine Only.drew ?_ | refine Only.drewN ?_ _ | refine Only.setCell ?_ (by exact rfl) _))
set_option maxHeartbeats 1000000 in
theorem radd_first1 (b : Nat) (n : Int) (m s l h : Nat) (f : Nat) (n0 : n = 0) (t1 : (fo f f != some .eq) = false) (t2 : (fo f 9218868437227405311 == some .gt) = false) (t3 : (fo f 0 == some .lt) = false) (t4 : (fo f 0 == some .eq) = false) (w : World) (a : LineAt w b n m s l h) :
    Calls Try.prog 12 #[.pointer (some ⟨b, 0, none⟩), .float .f64 f] w fun e w' => e = .returned (.bool true) ∧ LineAt w' b 1 f 0 f f ∧ Only b w w' := by
  obtain ⟨c0, c1, c2, c3, c4, f0, f1, f2, f3, f4⟩ := a
  subst n0
  go_enter Try.func12, Try.ntmps12
  go_wp2_with fail
  refine (rnan_any _ _).mono ?_
  rintro e w' ⟨rfl, rfl⟩
  rw [t1]
  go_wp2_with fail
  all_goals (go_ret)
  all_goals refine ⟨rfl, lineAt_of ?_ ?_ ?_ ?_ ?_ ?_ ?_ ?_ ?_ ?_, ?_⟩
  all_goals go_light
  all_goals first | (go_simp; done) | (repeat (first | exact Only.refl _ _ | refine Only.drew ?_ | refine Only.drewN ?_ _ | refine Only.setCell ?_ (by exact rfl) _))
end Go.Proofs.Ytoefnagenooaiaa
