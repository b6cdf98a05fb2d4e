/-
  Queue: the contracts of the reference's queue.
-/
import Derived.Test.YtabgooglfgioiaaN
namespace Go.Proofs.Ytabgooglfgioiaa
set_option linter.unusedVariables false
open Go.ChangeShapes Go.WideShapes Go.ChangeAt Go.RowKit

def qCells (f x y z : Int) : Array Value := ([Value.int .i64 f, .int .i8 x, .int .i8 y, .int .u8 z] ++ (falses 64).toList ++ (zeros 192).toList).toArray
theorem build44 (f x y z : Int) (W : World) : (Instr.build 44 #[(0, .int .i64 f), (1, .agg #[.int .i8 x, .int .i8 y, .int .u8 z])]).run Try.prog W = .ok (.agg (qCells f x y z)) W := by kernel_rfl
theorem wpList_build44 {W : World} {ops : Array Oper} {rest : List Oper} {o : Oper} {a : Act} {Q : Exit → Act → World → Prop} (f x y z : Int)
    (hg : o.guard = none) (p q : Operand) (hop : o.op = Op.build 44 #[(0, p), (1, q)]) (hp : a.eval p = .int .i64 f) (hq : a.eval q = .agg #[.int .i8 x, .int .i8 y, .int .u8 z])
    (hK : wpList Try.prog ops Q rest (a.put o.dst (.agg (qCells f x y z))) W) : wpList Try.prog ops Q (o :: rest) a W := by
  refine wpList_plain hg fun K' hK' => ?_
  have hrun := build44 f x y z W
  unfold Oper.wp
  simp only [execOp, hop]
  have e : (Array.map (fun x => (x.fst, a.eval x.snd)) #[(0, p), (1, q)] : Array (Nat × Value)) = #[(0, .int .i64 f), (1, .agg #[.int .i8 x, .int .i8 y, .int .u8 z])] := by
    simp [hp, hq]
  rw [e]
  rw [Sem.run_bind, hrun]
  exact hK' _ _ hK
/-- Inputs in memory, from an offset on. -/
structure InsO (w : World) (b o n : Nat) (X Y Z : Nat → Int) : Prop where
  x : ∀ k, k < n → w.cell? ⟨b, o + k * 3, none⟩ = some (.int .i8 (X k))
  y : ∀ k, k < n → w.cell? ⟨b, o + k * 3 + 1, none⟩ = some (.int .i8 (Y k))
  z : ∀ k, k < n → w.cell? ⟨b, o + k * 3 + 2, none⟩ = some (.int .u8 (Z k))
  f : ∀ k, k < n * 3 → w.frozen? ⟨b, o + k, none⟩ = false
theorem InsO.block {w w' : World} {b o n : Nat} {X Y Z : Nat → Int} (h : InsO w b o n X Y Z) (e : w'.heap[b]? = w.heap[b]?) : InsO w' b o n X Y Z :=
  ⟨fun k hk => (World.cell?_of_block (a := ⟨b, _, none⟩) e).trans (h.x k hk), fun k hk => (World.cell?_of_block (a := ⟨b, _, none⟩) e).trans (h.y k hk), fun k hk => (World.cell?_of_block (a := ⟨b, _, none⟩) e).trans (h.z k hk), fun k hk => (World.frozen?_of_block (a := ⟨b, _, none⟩) e).trans (h.f k hk)⟩
theorem InsO.set {w : World} {b o n : Nat} {X Y Z : Nat → Int} (h : InsO w b o n X Y Z) (k : Nat) (hk : k < n) (x y z : Int) :
    InsO (((w.setCell ⟨b, o + k * 3, none⟩ (.int .i8 x)).setCell ⟨b, o + k * 3 + 1, none⟩ (.int .i8 y)).setCell ⟨b, o + k * 3 + 2, none⟩ (.int .u8 z)) b o n (updI X k x) (updI Y k y) (updI Z k z) := by
  have hx := h.x k hk
  have hy := h.y k hk
  have hz := h.z k hk
  refine ⟨fun j hj => ?_, fun j hj => ?_, fun j hj => ?_, fun j hj => ?_⟩
  · rw [World.cell?_setCell_other _ _ _ _ (by simp <;> omega), World.cell?_setCell_other _ _ _ _ (by simp <;> omega)]
    by_cases e : j = k
    · subst e; simp only [updI, if_pos]; exact World.cell?_setCell_same _ _ _ hx
    · rw [World.cell?_setCell_other _ _ _ _ (by simp <;> omega)]; simp only [updI, if_neg e]; exact h.x j hj
  · rw [World.cell?_setCell_other _ _ _ _ (by simp <;> omega)]
    by_cases e : j = k
    · subst e; simp only [updI, if_pos]
      exact World.cell?_setCell_same _ _ _ ((World.cell?_setCell_other _ _ _ _ (by simp)).trans hy)
    · rw [World.cell?_setCell_other _ _ _ _ (by simp <;> omega), World.cell?_setCell_other _ _ _ _ (by simp <;> omega)]; simp only [updI, if_neg e]; exact h.y j hj
  · by_cases e : j = k
    · subst e; simp only [updI, if_pos]
      exact World.cell?_setCell_same _ _ _ ((World.cell?_setCell_other _ _ _ _ (by simp)).trans ((World.cell?_setCell_other _ _ _ _ (by simp)).trans hz))
    · rw [World.cell?_setCell_other _ _ _ _ (by simp <;> omega), World.cell?_setCell_other _ _ _ _ (by simp <;> omega), World.cell?_setCell_other _ _ _ _ (by simp <;> omega)]; simp only [updI, if_neg e]; exact h.z j hj
  · rw [World.frozen?_setCell, World.frozen?_setCell, World.frozen?_setCell]; exact h.f j hj
theorem InsO.setLow {w : World} {b o n : Nat} {X Y Z : Nat → Int} (h : InsO w b o n X Y Z) {a : Addr} (v : Value) (ha : a.block ≠ b ∨ a.off < o) : InsO (w.setCell a v) b o n X Y Z := by
  refine ⟨fun j hj => ?_, fun j hj => ?_, fun j hj => ?_, fun j hj => ?_⟩
  · rw [World.cell?_setCell_other _ _ _ _ (by intro e; subst e; rcases ha with ha | ha <;> simp at ha; omega)]; exact h.x j hj
  · rw [World.cell?_setCell_other _ _ _ _ (by intro e; subst e; rcases ha with ha | ha <;> simp at ha; omega)]; exact h.y j hj
  · rw [World.cell?_setCell_other _ _ _ _ (by intro e; subst e; rcases ha with ha | ha <;> simp at ha; omega)]; exact h.z j hj
  · rw [World.frozen?_setCell]; exact h.f j hj
theorem BoolsAt.setOut {w : World} {b o n : Nat} {c : Nat → Bool} (h : BoolsAt w b o n c) {a : Addr} (v : Value) (ha : a.block ≠ b ∨ a.off < o ∨ o + n ≤ a.off) : BoolsAt (w.setCell a v) b o n c := by
  constructor
  · intro i hi
    rw [World.cell?_setCell_other _ _ _ _ (by intro e; subst e; rcases ha with ha | ha <;> simp at ha; omega)]
    exact h.cell i hi
  · intro i hi
    rw [World.frozen?_setCell]; exact h.frozen i hi

/-- The reference's queue in memory: From, Last, Has, In. -/
structure RAt (w : World) (c : Nat) (f x y z : Int) (hs : Nat → Bool) (X Y Z : Nat → Int) : Prop where
  c0 : w.cell? ⟨c, 0, none⟩ = some (.int .i64 f)
  c1 : w.cell? ⟨c, 1, none⟩ = some (.int .i8 x)
  c2 : w.cell? ⟨c, 2, none⟩ = some (.int .i8 y)
  c3 : w.cell? ⟨c, 3, none⟩ = some (.int .u8 z)
  f0 : w.frozen? ⟨c, 0, none⟩ = false
  f1 : w.frozen? ⟨c, 1, none⟩ = false
  f2 : w.frozen? ⟨c, 2, none⟩ = false
  f3 : w.frozen? ⟨c, 3, none⟩ = false
  has : BoolsAt w c 4 64 hs
  ins : InsO w c 68 64 X Y Z
theorem RAt.block {w w' : World} {c : Nat} {f x y z : Int} {hs : Nat → Bool} {X Y Z : Nat → Int} (h : RAt w c f x y z hs X Y Z) (e : w'.heap[c]? = w.heap[c]?) : RAt w' c f x y z hs X Y Z :=
  ⟨(World.cell?_of_block e).trans h.c0, (World.cell?_of_block e).trans h.c1, (World.cell?_of_block e).trans h.c2, (World.cell?_of_block e).trans h.c3,
   (World.frozen?_of_block e).trans h.f0, (World.frozen?_of_block e).trans h.f1, (World.frozen?_of_block e).trans h.f2, (World.frozen?_of_block e).trans h.f3, h.has.block e, h.ins.block e⟩
theorem RAt.lt {w : World} {c : Nat} {f x y z : Int} {hs : Nat → Bool} {X Y Z : Nat → Int} (h : RAt w c f x y z hs X Y Z) : c < w.heap.size := cell_lt h.c0

theorem RAt.setBoth {w : World} {c : Nat} {f x y z : Int} {hs : Nat → Bool} {X Y Z : Nat → Int} (h : RAt w c f x y z hs X Y Z) (d : Nat) (hd : d < 64) (v : Bool) (i j k : Int) :
    RAt ((((w.setCell ⟨c, 4 + d, none⟩ (.bool v)).setCell ⟨c, 68 + d * 3, none⟩ (.int .i8 i)).setCell ⟨c, 68 + d * 3 + 1, none⟩ (.int .i8 j)).setCell ⟨c, 68 + d * 3 + 2, none⟩ (.int .u8 k)) c f x y z (upd hs d v) (updI X d i) (updI Y d j) (updI Z d k) := by
  have low : ∀ o, o < 4 → ((((w.setCell ⟨c, 4 + d, none⟩ (.bool v)).setCell ⟨c, 68 + d * 3, none⟩ (.int .i8 i)).setCell ⟨c, 68 + d * 3 + 1, none⟩ (.int .i8 j)).setCell ⟨c, 68 + d * 3 + 2, none⟩ (.int .u8 k)).cell? ⟨c, o, none⟩ = w.cell? ⟨c, o, none⟩ := fun o ho => by
    rw [World.cell?_setCell_other _ _ _ _ (by simp <;> omega), World.cell?_setCell_other _ _ _ _ (by simp <;> omega), World.cell?_setCell_other _ _ _ _ (by simp <;> omega), World.cell?_setCell_other _ _ _ _ (by simp <;> omega)]
  refine ⟨(low 0 (by omega)).trans h.c0, (low 1 (by omega)).trans h.c1, (low 2 (by omega)).trans h.c2, (low 3 (by omega)).trans h.c3, ?_, ?_, ?_, ?_, ?_, ?_⟩
  · simp only [World.frozen?_setCell]; exact h.f0
  · simp only [World.frozen?_setCell]; exact h.f1
  · simp only [World.frozen?_setCell]; exact h.f2
  · simp only [World.frozen?_setCell]; exact h.f3
  · exact (((h.has.set d hd v).setOut _ (Or.inr (Or.inr (by simp <;> omega)))).setOut _ (Or.inr (Or.inr (by simp <;> omega)))).setOut _ (Or.inr (Or.inr (by simp <;> omega)))
  · exact (h.ins.setLow _ (Or.inr (by simp <;> omega))).set d hd i j k
theorem Kept.setSelf {c o : Nat} {x y : World} (h : Kept (fun b => b = c) x y) (u : Value) : Kept (fun b => b = c) x (y.setCell ⟨c, o, none⟩ u) := h.setCell (Or.inl rfl) u
theorem RAt.drew {w : World} {c : Nat} {f x y z : Int} {hs : Nat → Bool} {X Y Z : Nat → Int} (h : RAt w c f x y z hs X Y Z) : RAt w.drew c f x y z hs X Y Z := h.block rfl
theorem RAt.setHead {w : World} {c : Nat} {f x y z : Int} {hs : Nat → Bool} {X Y Z : Nat → Int} (h : RAt w c f x y z hs X Y Z) (f' i j k : Int) :
    RAt ((((w.setCell ⟨c, 0, none⟩ (.int .i64 f')).setCell ⟨c, 1, none⟩ (.int .i8 i)).setCell ⟨c, 2, none⟩ (.int .i8 j)).setCell ⟨c, 3, none⟩ (.int .u8 k)) c f' i j k hs X Y Z := by
  obtain ⟨c0, c1, c2, c3, f0, f1, f2, f3, hh, hn⟩ := h
  refine ⟨?_, ?_, ?_, ?_, ?_, ?_, ?_, ?_, (((hh.setOut _ (Or.inr (Or.inl (by simp)))).setOut _ (Or.inr (Or.inl (by simp)))).setOut _ (Or.inr (Or.inl (by simp)))).setOut _ (Or.inr (Or.inl (by simp))), (((hn.setLow _ (Or.inr (by simp))).setLow _ (Or.inr (by simp))).setLow _ (Or.inr (by simp))).setLow _ (Or.inr (by simp))⟩
  all_goals go_simp

theorem qCells_has (f x y z : Int) (k : Nat) (h : k < 64) : (qCells f x y z)[4 + k]? = some (.bool false) := by
  unfold qCells
  rw [List.getElem?_toArray, List.getElem?_append_left (by simp [falses]; omega), List.getElem?_append_right (by simp)]
  have := falses_at 64 k h
  rw [← Array.getElem?_toList] at this
  simpa using this
theorem qCells_in (f x y z : Int) (k : Nat) (h : k < 192) : (qCells f x y z)[68 + k]? = some (if k % 3 = 2 then Value.int .u8 0 else Value.int .i8 0) := by
  unfold qCells
  rw [List.getElem?_toArray, List.getElem?_append_right (by simp [falses])]
  have := zeros_at 192 k h
  rw [← Array.getElem?_toList] at this
  have e : 68 + k - ([Value.int .i64 f, .int .i8 x, .int .i8 y, .int .u8 z] ++ (falses 64).toList).length = k := by simp [falses]
  rw [e]; exact this

theorem qCells_lo (f x y z : Int) (k : Nat) (h : k < 4) : (qCells f x y z)[k]? = [Value.int .i64 f, .int .i8 x, .int .i8 y, .int .u8 z][k]? := by
  unfold qCells
  rw [List.getElem?_toArray, List.getElem?_append_left (by simp [falses]; omega), List.getElem?_append_left (by simp; omega)]
theorem rnew_any (f x y z : Int) (w : World) : Calls Try.prog 13 #[.int .i64 f, .agg #[.int .i8 x, .int .i8 y, .int .u8 z]] w fun e w' => e = .returned (.pointer (some ⟨w.heap.size + 1, 0, none⟩)) ∧ RAt w' (w.heap.size + 1) f x y z (fun _ => false) (fun _ => 0) (fun _ => 0) (fun _ => 0) ∧ Below w.heap.size w w' ∧ w'.heap.size = w.heap.size + 2 := by
  go_enter Try.func13, Try.ntmps13
  go_wp2_with (refine wpList_build44 f x y z rfl _ _ rfl rfl rfl ?_)
  go_ret
  have key : ∀ k v, (qCells f x y z)[k]? = some v → ((w.alloc (Obj.cells #[.int .i8 x, .int .i8 y, .int .u8 z] 24)).alloc (Obj.cells (qCells f x y z) 44)).cell? ⟨w.heap.size + 1, k, none⟩ = some v := fun k v h => by
    have := World.cell?_alloc_new (w.alloc (Obj.cells #[.int .i8 x, .int .i8 y, .int .u8 z] 24)) (qCells f x y z) 44 k
    rw [size_alloc] at this
    rw [this]; exact h
  have keyf : ∀ k, ((w.alloc (Obj.cells #[.int .i8 x, .int .i8 y, .int .u8 z] 24)).alloc (Obj.cells (qCells f x y z) 44)).frozen? ⟨w.heap.size + 1, k, none⟩ = false := fun k => by
    have := World.frozen?_alloc_new (w.alloc (Obj.cells #[.int .i8 x, .int .i8 y, .int .u8 z] 24)) (qCells f x y z) 44 k
    rw [size_alloc] at this
    exact this
  refine ⟨rfl, ⟨key 0 _ (qCells_lo f x y z 0 (by omega)), key 1 _ (qCells_lo f x y z 1 (by omega)), key 2 _ (qCells_lo f x y z 2 (by omega)), key 3 _ (qCells_lo f x y z 3 (by omega)), keyf 0, keyf 1, keyf 2, keyf 3, ⟨fun k hk => key _ _ (qCells_has f x y z k hk), fun k hk => keyf _⟩, ⟨fun k hk => ?_, fun k hk => ?_, fun k hk => ?_, fun k hk => keyf _⟩⟩, ?_, by simp⟩
  · rw [key _ _ (qCells_in f x y z (k * 3) (by omega)), if_neg (by omega)]
  · rw [Nat.add_assoc, key _ _ (qCells_in f x y z (k * 3 + 1) (by omega)), if_neg (by omega)]
  · rw [Nat.add_assoc, key _ _ (qCells_in f x y z (k * 3 + 2) (by omega)), if_pos (by omega)]
  · (repeat (first | exact Below.refl _ _ | refine Below.alloc ?_ (by simp) _))
end Go.Proofs.Ytabgooglfgioiaa
