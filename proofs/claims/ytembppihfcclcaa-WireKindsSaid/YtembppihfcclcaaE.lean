/-
  Entry: two rows of inputs compared; Same.
-/
import Derived.Test.YtembppihfcclcaaD
import Derived.ChangeKeysEq
namespace Go.Proofs.Ytembppihfcclcaa
set_option linter.unusedVariables false
open Go.ChangeShapes Go.WideShapes Go.ChangeAt Go.RowKit

def inpL (I : Nat → Int) : List Value := (List.range 24).map (inpV I)
theorem inpL_len (I : Nat → Int) : (inpL I).length = 24 := by unfold inpL; rw [List.length_map, List.length_range]
theorem inpL_get (I : Nat → Int) (k : Nat) (hk : k < 24) : (inpL I)[k]? = some (inpV I k) := by
  unfold inpL; rw [List.getElem?_map, List.getElem?_range hk]; rfl
theorem size_inps (I : Nat → Int) : (Try.prog.info? 35).map (·.size) = some (inpL I).length := by rw [inpL_len]; kernel_rfl
theorem EntAt.inpRange {w : World} {b o : Nat} {fr : Int} {sv : Value} {I : Nat → Int} (a : EntAt w b o fr sv I) : w.rangeAt b (o + 2) (inpL I) := by
  intro j x hx
  have hj : j < 24 := by have := (List.getElem?_eq_some_iff.1 hx).1; rw [inpL_len] at this; exact this
  rw [inpL_get _ _ hj] at hx
  rw [show o + 2 + j = o + (2 + j) by omega, a.cell (2 + j) (by omega), ← hx]
  unfold entF
  rw [if_neg (by omega), if_neg (by omega), show 2 + j - 2 = j by omega]
theorem EntAt.inpRange0 {w : World} {b : Nat} {fr : Int} {sv : Value} {I : Nat → Int} (a : EntAt w b 0 fr sv I) : w.rangeAt b 2 (inpL I) := a.inpRange
theorem wpList_load_g {P : Program} {ops : Array Oper} {rest : List Oper} {op : Oper} {a : Act} {w : World} {Q : Exit → Act → World → Prop} (hw : Region.wanted op (yielded ops a.tmps) = true) (ty : TypeId) (x : Operand) (ho : op.op = .load ty x)
    (b o : Nat) (hx : a.eval x = .pointer (some ⟨b, o, none⟩)) (cs : List Value) (d : TypeDesc) (hc : w.rangeAt b o cs)
    (hu : P.underlying ty = some d) (hd : d.isRow = true) (hi : (P.info? ty).map (·.size) = some cs.length)
    (h : wpList P ops Q rest (a.put op.dst (.agg cs.toArray)) w) : wpList P ops Q (op :: rest) a w :=
  wpList_step fun K hK => by rw [if_pos hw]; exact wp_load_mid ty x ho b o hx cs d hc hu hd hi (hK _ _ h)
theorem inpL_arr (I : Nat → Int) : (inpL I).toArray = #[.int .i8 (I 0), .int .i8 (I 1), .int .u8 (I 2), .int .i8 (I 3), .int .i8 (I 4), .int .u8 (I 5), .int .i8 (I 6), .int .i8 (I 7), .int .u8 (I 8), .int .i8 (I 9), .int .i8 (I 10), .int .u8 (I 11), .int .i8 (I 12), .int .i8 (I 13), .int .u8 (I 14), .int .i8 (I 15), .int .i8 (I 16), .int .u8 (I 17), .int .i8 (I 18), .int .i8 (I 19), .int .u8 (I 20), .int .i8 (I 21), .int .i8 (I 22), .int .u8 (I 23)] := rfl
theorem part_inp (I : Nat → Int) (i : Nat) (hi : i < 8) (w : World) : (part 34 (inpL I).toArray (i * 3)).run Try.prog w = .ok (.agg #[.int .i8 (I (i * 3)), .int .i8 (I (i * 3 + 1)), .int .u8 (I (i * 3 + 2))]) w := by
  rw [inpL_arr]
  rcases (by omega : i = 0 ∨ i = 1 ∨ i = 2 ∨ i = 3 ∨ i = 4 ∨ i = 5 ∨ i = 6 ∨ i = 7) with rfl | rfl | rfl | rfl | rfl | rfl | rfl | rfl
  all_goals (simp [part, go_sem]; try go_simp)
def inpEq (I I' : Nat → Int) (i : Nat) : Bool := I (i * 3) == I' (i * 3) && (I (i * 3 + 1) == I' (i * 3 + 1) && I (i * 3 + 2) == I' (i * 3 + 2))
theorem eq_inp (x y z x' y' z' : Int) (w : World) : (Op.equalIn 9999 34 (.agg #[.int .i8 x, .int .i8 y, .int .u8 z]) (.agg #[.int .i8 x', .int .i8 y', .int .u8 z'])).run Try.prog w = .ok (x == x' && (y == y' && z == z')) w := by
  rcases h1 : (x == x') with _ | _ <;> rcases h2 : (y == y') with _ | _ <;> rcases h3 : (z == z') with _ | _
  all_goals (go_simp; try simp [h1, h2, h3])
theorem cells_inp : Try.prog.cellsOf 34 = 3 := by kernel_rfl
theorem eqItems_inp (I I' : Nat → Int) : ∀ (is : List Nat) (w : World), (∀ i ∈ is, i < 8) → (Op.eqItems 9999 34 3 (inpL I).toArray (inpL I').toArray is).run Try.prog w = .ok (is.all (inpEq I I')) w
  | [], w, _ => by simp [Op.eqItems]
  | i :: is, w, h => by
    have hi := h i (List.mem_cons_self ..)
    simp only [Op.eqItems, Sem.run_bind, part_inp _ i hi, eq_inp, Result.andThen_ok, List.all_cons]
    have ih := eqItems_inp I I' is w (fun j hj => h j (List.mem_cons_of_mem _ hj))
    cases he : inpEq I I' i
    · unfold inpEq at he; rw [he]; rfl
    · unfold inpEq at he; rw [he]; simpa using ih
def inpsEq (I I' : Nat → Int) : Bool := (List.range 8).all (inpEq I I')
theorem eq_inps (I I' : Nat → Int) (w : World) : (Op.equalIn 10000 35 (.agg (inpL I).toArray) (.agg (inpL I').toArray)).run Try.prog w = .ok (inpsEq I I') w := by
  obtain ⟨i, hi⟩ := info_of_underlying Try.underlying34
  rw [run_equalIn_array w 9999 _ _ Try.underlying35 hi, cells_inp]
  exact eqItems_inp I I' _ w (fun i hi => List.mem_range.1 hi)
theorem inpsEq_iff (I I' : Nat → Int) : inpsEq I I' = true ↔ ∀ k, k < 24 → I k = I' k := by
  unfold inpsEq inpEq
  simp only [List.all_eq_true, List.mem_range, Bool.and_eq_true, beq_iff_eq]
  constructor
  · intro h k hk
    have := h (k / 3) (by omega)
    rcases (by omega : k % 3 = 0 ∨ k % 3 = 1 ∨ k % 3 = 2) with e | e | e
    · rw [show k = k / 3 * 3 by omega]; exact this.1
    · rw [show k = k / 3 * 3 + 1 by omega]; exact this.2.1
    · rw [show k = k / 3 * 3 + 2 by omega]; exact this.2.2
  · intro h i hi
    exact ⟨h _ (by omega), h _ (by omega), h _ (by omega)⟩
def sameB (fr : Int) (n : Nat) (E : Nat → Nat → Int) (I : Nat → Int) (fr' : Int) (n' : Nat) (E' : Nat → Nat → Int) (I' : Nat → Int) : Bool := fr == fr' && (inpsEq I I' && (decide (n = n') && evsEq E E' n))
set_option maxHeartbeats 1000000 in
theorem same_any (fr : Int) (sv : Value) (n : Nat) (E : Nat → Nat → Int) (I : Nat → Int) (fr' : Int) (sv' : Value) (n' : Nat) (E' : Nat → Nat → Int) (I' : Nat → Int) (w : World) (h : EvsV w sv n E) (h' : EvsV w sv' n' E') :
    Calls Try.prog 52 #[.agg (entL fr sv I).toArray, .agg (entL fr' sv' I').toArray] w fun e w' => e = .returned (.bool (sameB fr n E I fr' n' E' I')) ∧ Below w.heap.size w w' := by
  unfold sameB
  have hA1 := entAt_new fr sv I 37 w
  have hB1 := (Below.refl w.heap.size w).alloc (Nat.le_refl _) (Obj.cells (entL fr sv I).toArray 37)
  have hA2 := entAt_new fr' sv' I' 37 (w.alloc (Obj.cells (entL fr sv I).toArray 37))
  have hA1' := hA1.block (Below.heap_alloc _ (Obj.cells (entL fr' sv' I').toArray 37) _ hA1.lt)
  have hB2 := hB1.alloc hB1.size (Obj.cells (entL fr' sv' I').toArray 37)
  have hsz : (w.alloc (Obj.cells (entL fr sv I).toArray 37)).heap.size = w.heap.size + 1 := by simp
  rw [hsz] at hA2
  clear hA1 hB1 hsz
  have c0 := hA1'.z0
  have c1 := hA1'.z1
  have c0' := hA2.z0
  have c1' := hA2.z1
  cases hf : (fr == fr') with
  | false =>
    rw [Bool.false_and]
    go_enter Try.func52, Try.ntmps52
    go_wp2_with fail
    go_ret
    exact ⟨rfl, hB2⟩
  | true =>
    rw [Bool.true_and]
    have HQ := eq_inps I I'
    have HA := Lib.hid hA1'
    have HA' := Lib.hid hA2
    have HB := Lib.hid hB2
    have HV := Lib.hid h
    have HV' := Lib.hid h'
    clear hA1' hA2 hB2 h h'
    go_enter Try.func52, Try.ntmps52
    cases hi : inpsEq I I' with
    | false =>
      rw [hi] at HQ
      go_wp2_with (first | (refine wpList_load_g (by rfl) 35 _ rfl w.heap.size 2 rfl _ _ HA.out.inpRange0 Try.underlying35 rfl (size_inps _) ?_) | (refine wpList_load_g (by rfl) 35 _ rfl (w.heap.size + 1) 2 rfl _ _ HA'.out.inpRange0 Try.underlying35 rfl (size_inps _) ?_))
      go_ret
      exact ⟨rfl, HB.out⟩
    | true =>
      rw [hi] at HQ
      go_wp2_with (first | (refine wpList_load_g (by rfl) 35 _ rfl w.heap.size 2 rfl _ _ HA.out.inpRange0 Try.underlying35 rfl (size_inps _) ?_) | (refine wpList_load_g (by rfl) 35 _ rfl (w.heap.size + 1) 2 rfl _ _ HA'.out.inpRange0 Try.underlying35 rfl (size_inps _) ?_))
      refine (eqEv_any n n' E E' sv sv' _ (HV.out.below HB.out (Nat.le_refl _)) (HV'.out.below HB.out (Nat.le_refl _))).mono ?_
      rintro e w2 ⟨rfl, hb2⟩
      have HB2 := Lib.hid (HB.out.trans (hb2.mono HB.out.size))
      clear hb2
      go_wp2_with fail
      go_ret
      exact ⟨rfl, HB2.out⟩
end Go.Proofs.Ytembppihfcclcaa
