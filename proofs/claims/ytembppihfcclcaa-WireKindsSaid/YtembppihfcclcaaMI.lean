/-
  Wire: the reader's part and log.
-/
import Derived.Test.YtembppihfcclcaaMH
namespace Go.Proofs.Ytembppihfcclcaa
set_option linter.unusedVariables false
open Go.ChangeShapes Go.WideShapes Go.ChangeAt Go.RowKit

set_option linter.unusedSimpArgs false
theorem num_end (R b o L C i n : Nat) (w : World) (h : RwAt w R b o L C i) (hn : L < i + n) :
    Calls Try.prog 42 #[.pointer (some ⟨R, 0, none⟩), .int .i64 n] w fun e w' => e = .panicked wrongW ∧ w' = w := by
  have H := Lib.hid h
  have HN := Lib.hid hn
  clear h hn
  go_enter Try.func42, Try.ntmps42
  go_wp2_with fail
  refine (raw_end R b o L C i n _ H.out HN.out).mono ?_
  rintro e w1 ⟨rfl, rfl⟩
  unfold wrongW
  go_wp2_with fail
  exact ⟨rfl, rfl, rfl⟩
/-- Of what was there, only block R may have changed. -/
structure RdW (R : Nat) (w w' : World) : Prop where
  os : w'.os = w.os
  tape : w'.tape = w.tape
  output : w'.output = w.output
  size : w.heap.size ≤ w'.heap.size
  block : ∀ k, k < w.heap.size → k ≠ R → w'.heap[k]? = w.heap[k]?
theorem RdW.refl (R : Nat) (w : World) : RdW R w w := ⟨rfl, rfl, rfl, Nat.le_refl _, fun _ _ _ => rfl⟩
theorem RdW.trans {R : Nat} {x y z : World} (h : RdW R x y) (k : RdW R y z) : RdW R x z :=
  ⟨k.os.trans h.os, k.tape.trans h.tape, k.output.trans h.output, Nat.le_trans h.size k.size, fun i hi hr => (k.block i (Nat.lt_of_lt_of_le hi h.size) hr).trans (h.block i hi hr)⟩
theorem Only.rdW {R : Nat} {w w' : World} (h : Only R w w') : RdW R w w' := ⟨h.os, h.tape, h.output, Nat.le_of_eq h.size.symm, fun k _ hk => h.block k hk⟩
theorem rdW_of {R B : Nat} {w w' : World} (h : Below B w w') (hB : w.heap.size ≤ B) : RdW R w w' := ⟨h.os, h.tape, h.output, h.size, fun k hk _ => h.block k (by omega)⟩
theorem RdW.below {R B : Nat} {w w' : World} (h : RdW R w w') (hB : B ≤ R) (hs : B ≤ w.heap.size) : Below B w w' := ⟨h.os, h.tape, h.output, h.size, fun k hk => h.block k (by omega) (by omega)⟩
theorem leV_nn {bs : List Int} (h : ByteL bs) (i n : Nat) : 0 ≤ leV bs i n := (leV_bd h i n).1
theorem leV_lt {bs : List Int} (h : ByteL bs) (i : Nat) : leV bs i 1 < 256 ∧ leV bs i 2 < 65536 ∧ leV bs i 4 < 4294967296 ∧ leV bs i 8 < 18446744073709551616 :=
  ⟨(leV_bd h i 1).2, (leV_bd h i 2).2, (leV_bd h i 4).2, (leV_bd h i 8).2⟩
/-- A number read, or the end. -/
def NumQ (bs : List Int) (R b o C i n : Nat) (w : World) (e : Ending) (w' : World) : Prop :=
  (i + n ≤ bs.length ∧ e = .returned (.int .u64 (leV bs i n)) ∧ RwAt w' R b o bs.length C (i + n) ∧ Only R w w') ∨ (bs.length < i + n ∧ e = .panicked wrongW ∧ w' = w)
theorem rnum_q (R b o C i n : Nat) (bs : List Int) (w : World) (hby : ByteL bs) (h : RwAt w R b o bs.length C i) (hn0 : 0 < n) (hn8 : n ≤ 8) (hb : BytesAt w b o bs) (hRb : b ≠ R) :
    Calls Try.prog 42 #[.pointer (some ⟨R, 0, none⟩), .int .i64 n] w (NumQ bs R b o C i n w) := by
  by_cases hn : i + n ≤ bs.length
  · exact (rnum_any R b o _ C i n bs w rfl hby h hn hn0 hn8 hb hRb).mono fun e w' hp => Or.inl ⟨hn, hp⟩
  · exact (num_end R b o _ C i n w h (by omega)).mono fun e w' hp => Or.inr ⟨by omega, hp⟩
/-- A part read, left out, or the end. -/
def PartQ (bs : List Int) (R b o C i n : Nat) (has : Bool) (w : World) (e : Ending) (w' : World) : Prop :=
  (i + (if has then n else 0) ≤ bs.length ∧ e = .returned (.int .i64 (if has then leV bs i n else 0)) ∧ RwAt w' R b o bs.length C (i + (if has then n else 0)) ∧ Only R w w') ∨ (bs.length < i + (if has then n else 0) ∧ e = .panicked wrongW ∧ w' = w)
theorem rpart_q (R b o C i n : Nat) (bs : List Int) (has : Bool) (h p : Int) (hh : (bits .and .i64 h p == 0) = !has) (w : World) (hby : ByteL bs) (hr : RwAt w R b o bs.length C i) (hn0 : 0 < n) (hn4 : n ≤ 4) (hb : BytesAt w b o bs) (hRb : b ≠ R) :
    Calls Try.prog 58 #[.pointer (some ⟨R, 0, none⟩), .int .i64 h, .int .i64 p, .int .i64 n] w (PartQ bs R b o C i n has w) := by
  have HR := Lib.hid hr
  have HB := Lib.hid hb
  have HBY := Lib.hid hby
  unfold PartQ
  cases has
  · clear hr hb hby
    simp only [Bool.false_eq_true, if_false, Nat.add_zero]
    have HLe := Lib.hid HR.out.le
    go_enter Try.func58, Try.ntmps58
    go_wp2_with fail
    go_ret
    exact Or.inl ⟨HLe.out, rfl, HR.out, Only.refl R w⟩
  · clear hr hb hby
    simp only [if_true]
    have hv0 := leV_nn HBY.out i n
    have hv1 := (leV_bd HBY.out i n).2
    have hp : (256 : Int) ^ n ≤ 4294967296 := by
      rcases (by omega : n = 1 ∨ n = 2 ∨ n = 3 ∨ n = 4) with e | e | e | e <;> rw [e] <;> decide
    have hv2 : leV bs i n < 4294967296 := by omega
    clear hv1 hp
    go_enter Try.func58, Try.ntmps58
    go_wp2_with fail
    refine (rnum_q R b o C i n bs _ HBY.out HR.out hn0 (by omega) HB.out hRb).mono ?_
    rintro e w1 (⟨hle, rfl, hr, ho⟩ | ⟨hlt, rfl, rfl⟩)
    · have HR1 := Lib.hid hr
      have HO1 := Lib.hid ho
      have HLe := Lib.hid hle
      clear hr ho hle
      go_wp2_with fail
      go_ret
      exact Or.inl ⟨HLe.out, rfl, HR1.out, HO1.out⟩
    · have HLt := Lib.hid hlt
      clear hlt
      unfold wrongW
      go_wp2_with fail
      exact ⟨rfl, Or.inr ⟨HLt.out, rfl, rfl⟩⟩
end Go.Proofs.Ytembppihfcclcaa
