/-
  Wire: a message as a row of cells; which parts a kind has; numbers between two.
-/
import Derived.Test.YtembppihfcclcaaMA
namespace Go.Proofs.Ytembppihfcclcaa
set_option linter.unusedVariables false
open Go.ChangeShapes Go.WideShapes Go.ChangeAt Go.RowKit

set_option linter.unusedSimpArgs false
/-- The kind of the k-th number of a message. -/
def mk (k : Nat) : IntKind := if k = 2 ∨ k = 3 then .u16 else if k = 4 ∨ k = 11 then .u32 else if k = 12 then .u64 else .i64
def msgF (F : Nat → Int) (iv lv dv : Value) (k : Nat) : Value := if k = 13 then iv else if k = 14 then lv else if k = 15 then dv else .int (mk k) (F k)
def msgL (F : Nat → Int) (iv lv dv : Value) : List Value := (List.range 16).map (msgF F iv lv dv)
theorem msgL_len (F : Nat → Int) (iv lv dv : Value) : (msgL F iv lv dv).length = 16 := by unfold msgL; rw [List.length_map, List.length_range]
theorem msgL_get (F : Nat → Int) (iv lv dv : Value) (k : Nat) (hk : k < 16) : (msgL F iv lv dv)[k]? = some (msgF F iv lv dv k) := by
  unfold msgL; rw [List.getElem?_map, List.getElem?_range hk]; rfl
theorem size_msg (F : Nat → Int) (iv lv dv : Value) : (Try.prog.info? 30).map (·.size) = some (msgL F iv lv dv).length := by rw [msgL_len]; kernel_rfl
/-- A message in memory, from place 0 of block b on. -/
structure MsgAt (w : World) (b : Nat) (F : Nat → Int) (iv lv dv : Value) : Prop where
  cell : ∀ k, k < 16 → w.cell? ⟨b, k, none⟩ = some (msgF F iv lv dv k)
section
variable {w w' : World} {b : Nat} {F : Nat → Int} {iv lv dv : Value}
theorem MsgAt.block (a : MsgAt w b F iv lv dv) (k : w'.heap[b]? = w.heap[b]?) : MsgAt w' b F iv lv dv := ⟨fun j hj => (World.cell?_of_block (a := ⟨b, j, none⟩) k).trans (a.cell j hj)⟩
theorem MsgAt.lt (a : MsgAt w b F iv lv dv) : b < w.heap.size := block_of_cell (a.cell 0 (by decide))
theorem MsgAt.c0 (a : MsgAt w b F iv lv dv) : w.cell? ⟨b, 0, none⟩ = some (.int .i64 (F 0)) := a.cell 0 (by decide)
theorem MsgAt.c1 (a : MsgAt w b F iv lv dv) : w.cell? ⟨b, 1, none⟩ = some (.int .i64 (F 1)) := a.cell 1 (by decide)
theorem MsgAt.c2 (a : MsgAt w b F iv lv dv) : w.cell? ⟨b, 2, none⟩ = some (.int .u16 (F 2)) := a.cell 2 (by decide)
theorem MsgAt.c3 (a : MsgAt w b F iv lv dv) : w.cell? ⟨b, 3, none⟩ = some (.int .u16 (F 3)) := a.cell 3 (by decide)
theorem MsgAt.c4 (a : MsgAt w b F iv lv dv) : w.cell? ⟨b, 4, none⟩ = some (.int .u32 (F 4)) := a.cell 4 (by decide)
theorem MsgAt.c5 (a : MsgAt w b F iv lv dv) : w.cell? ⟨b, 5, none⟩ = some (.int .i64 (F 5)) := a.cell 5 (by decide)
theorem MsgAt.c6 (a : MsgAt w b F iv lv dv) : w.cell? ⟨b, 6, none⟩ = some (.int .i64 (F 6)) := a.cell 6 (by decide)
theorem MsgAt.c7 (a : MsgAt w b F iv lv dv) : w.cell? ⟨b, 7, none⟩ = some (.int .i64 (F 7)) := a.cell 7 (by decide)
theorem MsgAt.c8 (a : MsgAt w b F iv lv dv) : w.cell? ⟨b, 8, none⟩ = some (.int .i64 (F 8)) := a.cell 8 (by decide)
theorem MsgAt.c9 (a : MsgAt w b F iv lv dv) : w.cell? ⟨b, 9, none⟩ = some (.int .i64 (F 9)) := a.cell 9 (by decide)
theorem MsgAt.c10 (a : MsgAt w b F iv lv dv) : w.cell? ⟨b, 10, none⟩ = some (.int .i64 (F 10)) := a.cell 10 (by decide)
theorem MsgAt.c11 (a : MsgAt w b F iv lv dv) : w.cell? ⟨b, 11, none⟩ = some (.int .u32 (F 11)) := a.cell 11 (by decide)
theorem MsgAt.c12 (a : MsgAt w b F iv lv dv) : w.cell? ⟨b, 12, none⟩ = some (.int .u64 (F 12)) := a.cell 12 (by decide)
theorem MsgAt.c13 (a : MsgAt w b F iv lv dv) : w.cell? ⟨b, 13, none⟩ = some iv := a.cell 13 (by decide)
theorem MsgAt.c14 (a : MsgAt w b F iv lv dv) : w.cell? ⟨b, 14, none⟩ = some lv := a.cell 14 (by decide)
theorem MsgAt.c15 (a : MsgAt w b F iv lv dv) : w.cell? ⟨b, 15, none⟩ = some dv := a.cell 15 (by decide)
theorem MsgAt.range (a : MsgAt w b F iv lv dv) : w.rangeAt b 0 (msgL F iv lv dv) := by
  intro j x hx
  have hj : j < 16 := by have := (List.getElem?_eq_some_iff.1 hx).1; rw [msgL_len] at this; exact this
  rw [msgL_get _ _ _ _ _ hj] at hx
  rw [Nat.zero_add, a.cell j hj]; exact hx
end
theorem msgAt_new (F : Nat → Int) (iv lv dv : Value) (T : TypeId) (w : World) : MsgAt (w.alloc (Obj.cells (msgL F iv lv dv).toArray T)) w.heap.size F iv lv dv := by
  constructor
  intro k hk
  rw [World.cell?_alloc_new, List.getElem?_toArray, msgL_get _ _ _ _ _ hk]
/-- A row of inputs, in memory. -/
def InpsV (w : World) (v : Value) (n : Nat) (I : Nat → Int) : Prop :=
  ∃ a cap, v = .slice a n cap ∧ n ≤ cap ∧ cap ≤ maxLen ∧ (0 < n → ∃ b o, a = some ⟨b, o, none⟩ ∧ b < w.heap.size ∧ InpsAt w b o n I)
theorem InpsV.below {w w' : World} {v : Value} {n : Nat} {I : Nat → Int} {B : Nat} (h : InpsV w v n I) (hb : Below B w w') (hs : w.heap.size ≤ B) : InpsV w' v n I := by
  obtain ⟨a, cap, rfl, h1, h2, h3⟩ := h
  refine ⟨a, cap, rfl, h1, h2, fun hn => ?_⟩
  obtain ⟨b, o, rfl, hlt, he⟩ := h3 hn
  have := hb.size
  exact ⟨b, o, rfl, by omega, he.block (hb.block b (by omega))⟩
/-- What a message says. -/
structure Msg where
  F : Nat → Int
  ni : Nat
  I : Nat → Int
  nl : Nat
  D : Nat → Ent
  d : List Int
/-- The rows of a message, in memory. -/
structure RowsV (w : World) (iv lv dv : Value) (M : Msg) : Prop where
  i : InpsV w iv M.ni M.I
  l : EntsV w lv M.nl M.D
  d : BytesV w dv M.d
theorem RowsV.below {w w' : World} {iv lv dv : Value} {M : Msg} {B : Nat} (h : RowsV w iv lv dv M) (hb : Below B w w') (hs : w.heap.size ≤ B) : RowsV w' iv lv dv M :=
  ⟨h.i.below hb hs, h.l.below hb hs, h.d.below hb hs⟩
theorem msgL_one {w : World} {iv lv dv : Value} {M : Msg} (h : RowsV w iv lv dv M) (F : Nat → Int) : (msgL F iv lv dv).toArray.all (·.oneCell') = true := all_oneCell_toArray (by
  obtain ⟨⟨a1, c1, rfl, -⟩, ⟨a2, c2, rfl, -⟩, ⟨a3, c3, rfl, -⟩⟩ := h
  unfold msgL; intro x hx; rw [List.mem_map] at hx; obtain ⟨k, -, rfl⟩ := hx
  unfold msgF
  repeat' split
  all_goals rfl)
def partsN (k : Int) : Int :=
  if k = 2 then 7 else if k = 3 then 8 else if k = 10 then 8 else if k = 4 then 263 else if k = 5 then 516 else if k = 6 then 4 else if k = 7 then 1204 else if k = 8 then 80 else if k = 11 then 16 else if k = 12 then 16 else if k = 13 then 132 else if k = 1 then 0 else if k = 9 then 0 else if k = 14 then 0 else -1
theorem parts_no (k : Int) (h1 : k ≠ 1) (h2 : k ≠ 2) (h3 : k ≠ 3) (h4 : k ≠ 4) (h5 : k ≠ 5) (h6 : k ≠ 6) (h7 : k ≠ 7) (h8 : k ≠ 8) (h9 : k ≠ 9) (h10 : k ≠ 10) (h11 : k ≠ 11) (h12 : k ≠ 12) (h13 : k ≠ 13) (h14 : k ≠ 14) (w : World) :
    Calls Try.prog 25 #[.int .i64 k] w fun e w' => e = .returned (.int .i64 (-1)) ∧ w = w' := by
  go_enter Try.func25, Try.ntmps25
  go_wp2
  go_ret
  exact ⟨rfl, rfl⟩
theorem kind_cases (k : Int) : k = 1 ∨ k = 2 ∨ k = 3 ∨ k = 4 ∨ k = 5 ∨ k = 6 ∨ k = 7 ∨ k = 8 ∨ k = 9 ∨ k = 10 ∨ k = 11 ∨ k = 12 ∨ k = 13 ∨ k = 14 ∨ (k ≠ 1 ∧ k ≠ 2 ∧ k ≠ 3 ∧ k ≠ 4 ∧ k ≠ 5 ∧ k ≠ 6 ∧ k ≠ 7 ∧ k ≠ 8 ∧ k ≠ 9 ∧ k ≠ 10 ∧ k ≠ 11 ∧ k ≠ 12 ∧ k ≠ 13 ∧ k ≠ 14) := by omega
theorem parts_none (k : Int) (h : k ≠ 1 ∧ k ≠ 2 ∧ k ≠ 3 ∧ k ≠ 4 ∧ k ≠ 5 ∧ k ≠ 6 ∧ k ≠ 7 ∧ k ≠ 8 ∧ k ≠ 9 ∧ k ≠ 10 ∧ k ≠ 11 ∧ k ≠ 12 ∧ k ≠ 13 ∧ k ≠ 14) : partsN k = -1 := by
  obtain ⟨h1, h2, h3, h4, h5, h6, h7, h8, h9, h10, h11, h12, h13, h14⟩ := h
  unfold partsN
  rw [if_neg h2, if_neg h3, if_neg h10, if_neg h4, if_neg h5, if_neg h6, if_neg h7, if_neg h8, if_neg h11, if_neg h12, if_neg h13, if_neg h1, if_neg h9, if_neg h14]
theorem parts_any (k : Int) (w : World) : Calls Try.prog 25 #[.int .i64 k] w fun e w' => e = .returned (.int .i64 (partsN k)) ∧ w = w' := by
  rcases kind_cases k with rfl | rfl | rfl | rfl | rfl | rfl | rfl | rfl | rfl | rfl | rfl | rfl | rfl | rfl | ⟨h1, h2, h3, h4, h5, h6, h7, h8, h9, h10, h11, h12, h13, h14⟩
  iterate 14
    · go_enter Try.func25, Try.ntmps25
      go_wp2
      go_ret
      exact ⟨rfl, rfl⟩
  rw [parts_none k ⟨h1, h2, h3, h4, h5, h6, h7, h8, h9, h10, h11, h12, h13, h14⟩]
  exact parts_no k h1 h2 h3 h4 h5 h6 h7 h8 h9 h10 h11 h12 h13 h14 w
/-- Has a kind the j-th part? -/
def hasB (k : Int) (j : Nat) : Bool := !(bits .and .i64 (max (partsN k) 0) (2 ^ j) == 0)
theorem has_cases (k : Int) : partsN k = 7 ∨ partsN k = 8 ∨ partsN k = 263 ∨ partsN k = 516 ∨ partsN k = 4 ∨ partsN k = 1204 ∨ partsN k = 80 ∨ partsN k = 16 ∨ partsN k = 132 ∨ partsN k = 0 ∨ partsN k = -1 := by
  rcases kind_cases k with rfl | rfl | rfl | rfl | rfl | rfl | rfl | rfl | rfl | rfl | rfl | rfl | rfl | rfl | h
  iterate 14
    · decide
  rw [parts_none k h]
  decide
theorem has_and (k : Int) (h : 0 ≤ partsN k) (j : Nat) : (bits .and .i64 (partsN k) (2 ^ j) == 0) = !hasB k j := by
  unfold hasB
  rw [Bool.not_not, Int.max_eq_left h]
def inB (has : Bool) (n lo hi : Int) : Bool := if has then decide (lo ≤ n) && decide (n ≤ hi) else n == 0
theorem in_any (has : Bool) (h p n lo hi : Int) (hh : (bits .and .i64 h p == 0) = !has) (w : World) :
    Calls Try.prog 26 #[.int .i64 h, .int .i64 p, .int .i64 n, .int .i64 lo, .int .i64 hi] w fun e w' => e = .returned (.bool (inB has n lo hi)) ∧ w = w' := by
  unfold inB
  cases has
  · rw [if_neg (by decide)]
    go_enter Try.func26, Try.ntmps26
    go_wp2
    go_ret
    exact ⟨rfl, rfl⟩
  · rw [if_pos rfl]
    cases h1 : decide (lo ≤ n)
    · go_enter Try.func26, Try.ntmps26
      go_wp2
      go_ret
      exact ⟨rfl, rfl⟩
    · go_enter Try.func26, Try.ntmps26
      go_wp2
      go_ret
      exact ⟨rfl, rfl⟩
theorem rows_any (has : Bool) (h p : Int) (n : Nat) (most : Int) (hh : (bits .and .i64 h p == 0) = !has) (w : World) :
    Calls Try.prog 27 #[.int .i64 h, .int .i64 p, .int .i64 n, .int .i64 most] w fun e w' => e = .returned (.bool (inB has n 1 most)) ∧ w = w' := by
  have HH := Lib.hid hh
  clear hh
  go_enter Try.func27, Try.ntmps27
  go_wp2_with fail
  refine (in_any has h p n 1 most HH.out _).mono ?_
  rintro e w' ⟨rfl, rfl⟩
  go_wp2_with fail
  go_ret
  exact ⟨rfl, rfl⟩
end Go.Proofs.Ytembppihfcclcaa
