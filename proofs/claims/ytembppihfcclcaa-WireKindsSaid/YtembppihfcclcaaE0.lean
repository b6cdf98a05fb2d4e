/-
  Entry: a struct laid into a new block.
-/
import Derived.Test.YtembppihfcclcaaE
namespace Go.Proofs.Ytembppihfcclcaa
set_option linter.unusedVariables false
open Go.ChangeShapes Go.WideShapes Go.ChangeAt Go.RowKit

def fill (c : Array Value) (o : Nat) : List Value → Array Value
  | [] => c
  | v :: r => fill (c.setIfInBounds o v) (o + 1) r
theorem setCells_alloc (T : TypeId) (w : World) : ∀ (vs : List Value) (c : Array Value) (o : Nat), (w.alloc (Obj.cells c T)).setCells w.heap.size o vs = w.alloc (Obj.cells (fill c o vs) T)
  | [], _, _ => rfl
  | v :: r, c, o => by
    rw [World.setCells, World.setCell_alloc_new]
    exact setCells_alloc T w r _ _
theorem fill_size : ∀ (vs : List Value) (c : Array Value) (o : Nat), (fill c o vs).size = c.size
  | [], _, _ => rfl
  | v :: r, c, o => by
    unfold fill
    rw [fill_size r, Array.size_setIfInBounds]
theorem fill_get : ∀ (vs : List Value) (c : Array Value) (o k : Nat), o + vs.length ≤ c.size → (fill c o vs)[k]? = if o ≤ k ∧ k < o + vs.length then vs[k - o]? else c[k]?
  | [], c, o, k, _ => by
    rw [if_neg (by simp only [List.length_nil]; omega)]; rfl
  | v :: r, c, o, k, h => by
    unfold fill
    simp only [List.length_cons] at h
    rw [fill_get r _ (o + 1) k (by rw [Array.size_setIfInBounds]; omega)]
    by_cases h1 : o + 1 ≤ k ∧ k < o + 1 + r.length
    · rw [if_pos h1, if_pos (by simp only [List.length_cons]; omega), show k - o = (k - (o + 1)) + 1 by omega, List.getElem?_cons_succ]
    · rw [if_neg h1, Array.getElem?_setIfInBounds]
      by_cases h2 : o = k
      · subst h2
        rw [if_pos rfl, if_pos (by omega), if_pos (by simp only [List.length_cons]; omega), Nat.sub_self]
        rfl
      · rw [if_neg h2, if_neg (by simp only [List.length_cons]; omega)]
theorem fill_all (c : Array Value) (vs : List Value) (h : vs.length = c.size) : fill c 0 vs = vs.toArray := by
  apply Array.ext_getElem?
  intro k
  have e : vs.toArray[k]? = vs[k]? := List.getElem?_toArray
  rw [fill_get vs c 0 k (by omega), e]
  by_cases hk : k < vs.length
  · rw [if_pos (by omega), Nat.sub_zero]
  · rw [if_neg (by omega), List.getElem?_eq_none (by omega)]
    exact Array.getElem?_eq_none (by omega)
/-- A value of many cells, laid into a block that was just made. -/
theorem run_store_new {P : Program} (c : Array Value) (vs : List Value) (T : TypeId) (w : World) (hl : vs.length = c.size) (h1 : vs.toArray.all (·.oneCell') = true) :
    (storeCells ⟨w.heap.size, 0, none⟩ vs).run P (w.alloc (Obj.cells c T)) = .ok () (w.alloc (Obj.cells vs.toArray T)) := by
  have := run_storeCells_cells (P := P) w.heap.size 0 vs 0 (w.alloc (Obj.cells c T)) (fun j hj => by
      rw [World.cell?_alloc_new, Array.getElem?_eq_getElem (by omega)]; rfl) (fun j hj => by rw [World.frozen?_alloc_new])
    (fun x hx => (Array.all_eq_true_iff_forall_mem.1 h1) x (by simpa using hx))
  rw [setCells_alloc, Nat.zero_add, fill_all c vs hl] at this
  simpa using this
theorem run_store_new' {P : Program} (c : Array Value) (vs : List Value) (T : TypeId) (w : World) (B : Nat) (hB : w.heap.size = B) (hl : vs.length = c.size) (h1 : vs.toArray.all (·.oneCell') = true) :
    (storeCells ⟨B, 0, none⟩ vs).run P (w.alloc (Obj.cells c T)) = .ok () (w.alloc (Obj.cells vs.toArray T)) := by subst hB; exact run_store_new c vs T w hl h1
/-- An entry laid into a new block. -/
theorem store_ent (fr : Int) (sv : Value) (I : Nat → Int) (h1 : (entL fr sv I).toArray.all (·.oneCell') = true) (w : World) (B : Nat) (hB : w.heap.size = B) :
    (storeCells ⟨B, 0, none⟩ (entL fr sv I)).run Try.prog (w.alloc (Obj.cells #[.int .i64 0, .slice none 0 0, .int .i8 0, .int .i8 0, .int .u8 0, .int .i8 0, .int .i8 0, .int .u8 0, .int .i8 0, .int .i8 0, .int .u8 0, .int .i8 0, .int .i8 0, .int .u8 0, .int .i8 0, .int .i8 0, .int .u8 0, .int .i8 0, .int .i8 0, .int .u8 0, .int .i8 0, .int .i8 0, .int .u8 0, .int .i8 0, .int .i8 0, .int .u8 0] 37)) = .ok () (w.alloc (Obj.cells (entL fr sv I).toArray 37)) := run_store_new' _ _ _ w B hB (by rw [entL_len]; rfl) h1
theorem EvsV.one {w : World} {sv : Value} {n : Nat} {E : Nat → Nat → Int} (h : EvsV w sv n E) (fr : Int) (I : Nat → Int) : (entL fr sv I).toArray.all (·.oneCell') = true := by
  obtain ⟨a, cap, rfl, -⟩ := h
  exact entL_one fr a n cap I
end Go.Proofs.Ytembppihfcclcaa
