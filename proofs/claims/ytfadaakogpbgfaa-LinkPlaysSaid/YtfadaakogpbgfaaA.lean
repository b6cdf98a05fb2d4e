/-
  The contracts of package serial's functions and of the reference's Way and Told: what each call returns, for every input in range.
-/
import Derived.Test.YtfadaakogpbgfaaRows
import Derived.WalkKit
import Derived.ProofKit
import Derived.OpenShut
import Derived.Outline
import Derived.Deep.QuietTactic
import Derived.BigQuiet
import Derived.Deep.RegionWith
import Derived.Deep.Light
import Derived.Lib.Hide
namespace Go.Proofs.Ytfadaakogpbgfaa
set_option linter.unusedVariables false
open Go.ChangeShapes Go.WideShapes Go.ChangeAt Go.RowKit

/-- Only block b may have changed. -/
structure Only (b : Nat) (w w' : World) : Prop where
  os : w'.os = w.os
  tape : w'.tape = w.tape
  output : w'.output = w.output
  size : w'.heap.size = w.heap.size
  block : ∀ k, k ≠ b → w'.heap[k]? = w.heap[k]?

theorem Only.refl (b : Nat) (w : World) : Only b w w := ⟨rfl, rfl, rfl, rfl, fun _ _ => rfl⟩
theorem Only.trans {b : Nat} {x y z : World} (h : Only b x y) (k : Only b y z) : Only b x z :=
  ⟨k.os.trans h.os, k.tape.trans h.tape, k.output.trans h.output, k.size.trans h.size, fun i hi => (k.block i hi).trans (h.block i hi)⟩
theorem Only.drewN {b : Nat} {a w : World} (h : Only b a w) (n : Nat) : Only b a (w.drewN n) := ⟨h.os, h.tape, h.output, h.size, h.block⟩
theorem Only.drew {b : Nat} {a w : World} (h : Only b a w) : Only b a w.drew := ⟨h.os, h.tape, h.output, h.size, h.block⟩
theorem Only.setCell {b : Nat} {a w : World} (h : Only b a w) {p : Addr} (hp : p.block = b) (u : Value) : Only b a (w.setCell p u) :=
  h.trans ⟨rfl, rfl, rfl, by simp [World.setCell], fun k hk => Below.heap_setCell _ _ _ _ (by omega)⟩
theorem Only.below {b B : Nat} {w w' : World} (h : Only b w w') (hb : B ≤ b) : Below B w w' :=
  ⟨h.os, h.tape, h.output, by rw [h.size]; omega, fun k hk => h.block k (by omega)⟩
theorem Only.cell {b : Nat} {w w' : World} (h : Only b w w') {p : Addr} (hp : p.block ≠ b) : w'.cell? p = w.cell? p := World.cell?_of_block (w := w) (h.block p.block hp)
theorem Only.frozen {b : Nat} {w w' : World} (h : Only b w w') {p : Addr} (hp : p.block ≠ b) : w'.frozen? p = w.frozen? p := World.frozen?_of_block (w := w) (h.block p.block hp)

def way (a b : Int) : Int := IntKind.i16.wrap (IntKind.u16.wrap (b - a))
theorem way_lo (a b : Int) : -32768 ≤ way a b := by unfold way IntKind.wrap; simp [IntKind.bits, IntKind.signed]; omega
theorem way_hi (a b : Int) : way a b ≤ 32767 := by unfold way IntKind.wrap; simp [IntKind.bits, IntKind.signed]; omega

theorem way_any (a b : Int) (w : World) :
    Calls Try.prog 29 #[.int .u16 a, .int .u16 b] w fun e w' => e = .returned (.int .i64 (way a b)) ∧ w = w' := by
  have h0 := way_lo a b
  have h1 := way_hi a b
  unfold way at *
  go_enter Try.func29, Try.ntmps29
  go_wp2
  go_ret
  exact ⟨rfl, rfl⟩

theorem bit_any (n : Int) (h0 : 1 ≤ n) (h1 : n ≤ 32) (w : World) :
    Calls Try.prog 30 #[.int .i64 n] w fun e w' => e = .returned (.int .u32 (2 ^ (n.toNat - 1) % 4294967296)) ∧ w = w' := by
  go_enter Try.func30, Try.ntmps30
  go_wp2
  go_ret
  exact ⟨rfl, rfl⟩

def toldF (s a m : Int) : Bool :=
  way s a == 0 || (decide (1 ≤ way s a) && decide (way s a ≤ 32) && (bits BinOp.and IntKind.u32 (m / 2 ^ ((way s a).toNat - 1)) 1 == 1))

theorem ret_bool {a b : Bool} (h : a = b) : Ending.returned (.bool a) = .returned (.bool b) := by rw [h]
theorem ret_int {k : IntKind} {a b : Int} (h : a = b) : Ending.returned (.int k a) = .returned (.int k b) := by rw [h]

theorem told_any (s a m : Int) (w : World) :
    Calls Try.prog 24 #[.int .u16 s, .int .u16 a, .int .u32 m] w fun e w' => e = .returned (.bool (toldF s a m)) ∧ w = w' := by
  have h0 := way_lo s a
  have h1 := way_hi s a
  unfold toldF
  go_enter Try.func24, Try.ntmps24
  go_wp2_with (go_at_call 29; refine (way_any _ _ _).mono ?_; rintro e w' ⟨rfl, rfl⟩)
  all_goals go_ret
  all_goals (refine ⟨ret_bool ?_, rfl⟩; simp_all; try omega)

theorem new_any (w : World) :
    Calls Try.prog 18 #[] w fun e w' => e = .returned (.pointer (some ⟨w.heap.size, 0, none⟩)) ∧ w' = w.alloc (Obj.cells #[Value.bool false, Value.int IntKind.u16 0, Value.int IntKind.u32 0] 61) := by
  go_enter Try.func18, Try.ntmps18
  go_wp2
  go_ret
  exact ⟨rfl, rfl⟩

/-- A Heard in memory. -/
structure HeardAt (w : World) (b : Nat) (is : Bool) (l m : Int) : Prop where
  c0 : w.cell? ⟨b, 0, none⟩ = some (.bool is)
  c1 : w.cell? ⟨b, 1, none⟩ = some (.int .u16 l)
  c2 : w.cell? ⟨b, 2, none⟩ = some (.int .u32 m)
  f0 : w.frozen? ⟨b, 0, none⟩ = false
  f1 : w.frozen? ⟨b, 1, none⟩ = false
  f2 : w.frozen? ⟨b, 2, none⟩ = false

theorem last_any (b : Nat) (is : Bool) (l m : Int) (w : World) (h : HeardAt w b is l m) :
    Calls Try.prog 19 #[.pointer (some ⟨b, 0, none⟩)] w fun e w' => e = .returned (.tuple #[.int .u16 l, .int .u32 m]) ∧ ∃ n, w' = w.drewN n := by
  obtain ⟨-, c1, c2, -, -, -⟩ := h
  go_enter Try.func19, Try.ntmps19
  go_wp2
  go_quiet (fail)
  go_wp2
  go_ret2
  exact ⟨rfl, _, rfl⟩


theorem heardAt_of {w : World} {b : Nat} {is : Bool} {l m : Int} (c0 : w.cell? ⟨b, 0, none⟩ = some (.bool is)) (c1 : w.cell? ⟨b, 1, none⟩ = some (.int .u16 l)) (c2 : w.cell? ⟨b, 2, none⟩ = some (.int .u32 m)) (f0 : w.frozen? ⟨b, 0, none⟩ = false) (f1 : w.frozen? ⟨b, 1, none⟩ = false) (f2 : w.frozen? ⟨b, 2, none⟩ = false) : HeardAt w b is l m := ⟨c0, c1, c2, f0, f1, f2⟩

theorem quiet_eq {P : Program} {f : FuncId} {args : Array Value} {w : World} {n : Nat} {v : Value}
    (h : Calls P f args (w.drewN n) fun e w' => e = .returned v ∧ w.drewN n = w') : Calls P f args (w.drewN n) fun e w'' => e = .returned v ∧ ∃ m, w'' = w.drewN m :=
  h.mono fun _ _ ⟨he, hm⟩ => ⟨he, n, hm.symm⟩

theorem note_1 (b : Nat) (l m s : Int) (w : World) (h : HeardAt w b false l m) :
    Calls Try.prog 25 #[.pointer (some ⟨b, 0, none⟩), .int .u16 s] w fun e w' => e = .returned (.bool true) ∧ HeardAt w' b true s m ∧ Only b w w' := by
  obtain ⟨c0, c1, c2, f0, f1, f2⟩ := h
  go_enter Try.func25, Try.ntmps25
  go_wp2
  go_ret
  refine ⟨rfl, heardAt_of ?_ ?_ ?_ ?_ ?_ ?_, ?_⟩
  all_goals go_light
  all_goals first | (go_simp; done) | (repeat (first | exact Only.refl _ _ | refine Only.drew ?_ | refine Only.drewN ?_ _ | refine Only.setCell ?_ (by exact rfl) _))
theorem note_2 (b : Nat) (l m s : Int) (w : World) (h : HeardAt w b true l m) (hw : 32 < way l s) :
    Calls Try.prog 25 #[.pointer (some ⟨b, 0, none⟩), .int .u16 s] w fun e w' => e = .returned (.bool true) ∧ HeardAt w' b true s 0 ∧ Only b w w' := by
  obtain ⟨c0, c1, c2, f0, f1, f2⟩ := h
  go_enter Try.func25, Try.ntmps25
  go_wp2_with (go_at_call 29; refine (way_any _ _ _).mono ?_; rintro e w' ⟨rfl, rfl⟩)
  go_ret
  refine ⟨rfl, heardAt_of ?_ ?_ ?_ ?_ ?_ ?_, ?_⟩
  all_goals go_light
  all_goals first | (go_simp; done) | (repeat (first | exact Only.refl _ _ | refine Only.drew ?_ | refine Only.drewN ?_ _ | refine Only.setCell ?_ (by exact rfl) _))
theorem note_3 (b : Nat) (l m s : Int) (w : World) (h : HeardAt w b true l m) (hw : 0 < way l s) (hw2 : way l s ≤ 32) :
    Calls Try.prog 25 #[.pointer (some ⟨b, 0, none⟩), .int .u16 s] w fun e w' => e = .returned (.bool true) ∧ HeardAt w' b true s (bits BinOp.or IntKind.u32 (IntKind.u32.wrap (m * 2 ^ (way l s).toNat)) (2 ^ ((way l s).toNat - 1) % 4294967296)) ∧ Only b w w' := by
  obtain ⟨c0, c1, c2, f0, f1, f2⟩ := h
  have hn : 0 ≤ way l s := by omega
  have hmin : min (way l s).toNat 32 = (way l s).toNat := by omega
  have hu : IntKind.u64.wrap (way l s) = way l s := by simp [IntKind.wrap, IntKind.bits, IntKind.signed]; omega
  have Hm := Lib.hid hmin
  have Hu := Lib.hid hu
  clear hmin hu
  go_enter Try.func25, Try.ntmps25
  go_wp2_with (go_at_call 29; refine (way_any _ _ _).mono ?_; rintro e w' ⟨rfl, rfl⟩)
  go_region_with (go_at_call 30; refine (bit_any _ (by omega) (by omega) _).mono ?_; rintro e w' ⟨rfl, rfl⟩)
  all_goals (go_wp2; go_ret)
  all_goals rw [Hu.out, Hm.out]
  all_goals refine ⟨rfl, heardAt_of ?_ ?_ ?_ ?_ ?_ ?_, ?_⟩
  all_goals go_light
  all_goals first | (go_simp; done) | (repeat (first | exact Only.refl _ _ | refine Only.drew ?_ | refine Only.drewN ?_ _ | refine Only.setCell ?_ (by exact rfl) _))
theorem note_4 (b : Nat) (l m s : Int) (w : World) (h : HeardAt w b true l m) (hw : way l s = 0) :
    Calls Try.prog 25 #[.pointer (some ⟨b, 0, none⟩), .int .u16 s] w fun e w' => e = .returned (.bool false) ∧ HeardAt w' b true l m ∧ Only b w w' := by
  obtain ⟨c0, c1, c2, f0, f1, f2⟩ := h
  go_enter Try.func25, Try.ntmps25
  go_wp2_with (go_at_call 29; refine (way_any _ _ _).mono ?_; rintro e w' ⟨rfl, rfl⟩)
  go_quiet ((go_at_call 30; exact quiet_eq (bit_any _ (by omega) (by omega) _)))
  go_wp2
  go_ret
  refine ⟨rfl, heardAt_of ?_ ?_ ?_ ?_ ?_ ?_, ?_⟩
  all_goals go_light
  all_goals first | (go_simp; done) | (repeat (first | exact Only.refl _ _ | refine Only.drew ?_ | refine Only.drewN ?_ _ | refine Only.setCell ?_ (by exact rfl) _))
theorem note_5 (b : Nat) (l m s : Int) (w : World) (h : HeardAt w b true l m) (hw : way l s < -32) :
    Calls Try.prog 25 #[.pointer (some ⟨b, 0, none⟩), .int .u16 s] w fun e w' => e = .returned (.bool false) ∧ HeardAt w' b true l m ∧ Only b w w' := by
  obtain ⟨c0, c1, c2, f0, f1, f2⟩ := h
  have d0 : (way l s == 0) = false := by simp; omega
  go_enter Try.func25, Try.ntmps25
  go_wp2_with (go_at_call 29; refine (way_any _ _ _).mono ?_; rintro e w' ⟨rfl, rfl⟩)
  go_quiet (fail)
  go_wp2
  go_ret
  refine ⟨rfl, heardAt_of ?_ ?_ ?_ ?_ ?_ ?_, ?_⟩
  all_goals go_light
  all_goals first | (go_simp; done) | (repeat (first | exact Only.refl _ _ | refine Only.drew ?_ | refine Only.drewN ?_ _ | refine Only.setCell ?_ (by exact rfl) _))
theorem note_6 (b : Nat) (l m s : Int) (w : World) (h : HeardAt w b true l m) (hw : way l s < 0) (hw2 : -32 ≤ way l s)
    (hb : (bits BinOp.and IntKind.u32 m (2 ^ ((-way l s).toNat - 1) % 4294967296) != 0) = true) :
    Calls Try.prog 25 #[.pointer (some ⟨b, 0, none⟩), .int .u16 s] w fun e w' => e = .returned (.bool false) ∧ HeardAt w' b true l m ∧ Only b w w' := by
  obtain ⟨c0, c1, c2, f0, f1, f2⟩ := h
  have d0 : (way l s == 0) = false := by simp; omega
  have d1 : decide (way l s < -32) = false := by simp; omega
  go_enter Try.func25, Try.ntmps25
  go_wp2_with (go_at_call 29; refine (way_any _ _ _).mono ?_; rintro e w' ⟨rfl, rfl⟩)
  go_quiet ((go_at_call 30; exact quiet_eq (bit_any _ (by omega) (by omega) _)))
  go_wp2
  go_ret
  refine ⟨rfl, heardAt_of ?_ ?_ ?_ ?_ ?_ ?_, ?_⟩
  all_goals go_light
  all_goals first | (go_simp; done) | (repeat (first | exact Only.refl _ _ | refine Only.drew ?_ | refine Only.drewN ?_ _ | refine Only.setCell ?_ (by exact rfl) _))
theorem note_7 (b : Nat) (l m s : Int) (w : World) (h : HeardAt w b true l m) (hw : way l s < 0) (hw2 : -32 ≤ way l s)
    (hb : (bits BinOp.and IntKind.u32 m (2 ^ ((-way l s).toNat - 1) % 4294967296) != 0) = false) :
    Calls Try.prog 25 #[.pointer (some ⟨b, 0, none⟩), .int .u16 s] w fun e w' => e = .returned (.bool true) ∧ HeardAt w' b true l (bits BinOp.or IntKind.u32 m (2 ^ ((-way l s).toNat - 1) % 4294967296)) ∧ Only b w w' := by
  obtain ⟨c0, c1, c2, f0, f1, f2⟩ := h
  have d0 : (way l s == 0) = false := by simp; omega
  have d1 : decide (way l s < -32) = false := by simp; omega
  have Hng := Lib.hid (show IntKind.i64.wrap (-way l s) = -way l s by simp [IntKind.wrap, IntKind.bits, IntKind.signed]; omega)
  go_enter Try.func25, Try.ntmps25
  go_wp2_with (go_at_call 29; refine (way_any _ _ _).mono ?_; rintro e w' ⟨rfl, rfl⟩)
  go_quiet ((go_at_call 30; exact quiet_eq (bit_any _ (by omega) (by omega) _)))
  go_wp2
  go_region_with (go_at_call 30; rw [Hng.out]; refine (bit_any _ (by omega) (by omega) _).mono ?_; rintro e w' ⟨rfl, rfl⟩)
  all_goals (go_wp2; go_ret)
  all_goals refine ⟨rfl, heardAt_of ?_ ?_ ?_ ?_ ?_ ?_, ?_⟩
  all_goals go_light
  all_goals first | (go_simp; done) | (repeat (first | exact Only.refl _ _ | refine Only.drew ?_ | refine Only.drewN ?_ _ | refine Only.setCell ?_ (by exact rfl) _))
end Go.Proofs.Ytfadaakogpbgfaa
