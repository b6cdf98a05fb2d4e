/-
  Wire: a message whose log is being made.
-/
import Derived.Test.YtembppihfcclcaaMU
import Derived.Deep.CutBlock
namespace Go.Proofs.Ytembppihfcclcaa
set_option linter.unusedVariables false
open Go.ChangeShapes Go.WideShapes Go.ChangeAt Go.RowKit

set_option linter.unusedSimpArgs false
/-- append of one entry, as a step of the walk. -/
theorem wpList_app_en {ops : Array Oper} {rest : List Oper} {o : Oper} {a : Act} {w w1 : World} {Q : Exit → Act → World → Prop} (hg : o.guard = none)
    (s x : Operand) (ho : o.op = Op.call { callee := Callee.builtin Builtin.append, args := #[s, x], argTypes := #[27, 27] })
    (B : Nat) (lv : Value) (m : Nat) (D : Nat → Ent) (hown : OwnL w1 B lv m D) (hm : m ≤ 1000) (hs : a.eval s = lv) (hB : B ≤ w1.heap.size) (sv : Value) (hsv : OwnE w1 B sv (D m).n (D m).E) (hsep : ∀ g, sv.ownBlock = some g → lv.ownBlock ≠ some g)
    (hw : w = w1.alloc (Obj.cells (entL (D m).fr sv (D m).I).toArray 37)) (hx : a.eval x = .slice (some ⟨w1.heap.size, 0, none⟩) 1 1)
    (h : ∀ v' w', Hid (OwnL w' B v' (m + 1) D) → Hid (w1.grownBy w' lv.ownBlock) → Hid (v'.ownBlock = lv.ownBlock ∨ v'.ownBlock = some (w1.heap.size + 1)) → Hid (∃ g cap, v' = .slice (some ⟨g, 0, none⟩) (m + 1) cap) → wpList Try.prog ops Q rest (a.put o.dst v') w') :
    wpList Try.prog ops Q (o :: rest) a w := by
  refine wpList_plain hg fun K hK => ?_
  have hwn : Region.wanted o (yielded ops a.tmps) = true := by simp [Region.wanted, hg]
  have := step_app_en (ops := ops) (op := o) (a := a) (w := w) (w1 := w1) (K := K) (Q := Q) (E' := True) hg s x ho B lv m D hown hm hs hB sv hsv hsep hw hx (fun v' w' h1 h2 h3 h4 => hK _ _ (h v' w' (Lib.hid h1) (Lib.hid h2) (Lib.hid h3) (Lib.hid h4)))
  rwa [if_pos hwn] at this
/-- A message at block T, its log in rows of its own from block B on. -/
structure LG (w0 : World) (T B : Nat) (F : Nat → Int) (lv : Value) (n : Nat) (D : Nat → Ent) (w : World) : Prop where
  msg : MsgAt w T F (.slice none 0 0) lv (.slice none 0 0)
  th : w.there T 0 16
  hw0 : w0.heap.size ≤ T
  hTB : T < B
  hB : B ≤ w.heap.size
  ol : OwnL w B lv n D
  bel : Below w0.heap.size w0 w
section
variable {w0 w w' : World} {T B n : Nat} {F : Nat → Int} {lv lv' : Value} {D : Nat → Ent}
theorem LG.grow {B' : Nat} (h : LG w0 T B F lv n D w) (hb : Below B' w w') (hs : w.heap.size ≤ B') : LG w0 T B F lv n D w' := by
  have hlt := h.msg.lt
  have := h.hB
  have := hb.size
  exact ⟨h.msg.block (hb.block _ (by omega)), there_block h.th (hb.block _ (by omega)), h.hw0, h.hTB, by omega, h.ol.rdW (rdW_of (R := T) hb hs) h.hTB, h.bel.trans (hb.mono (Nat.le_trans h.bel.size hs))⟩
theorem LG.rows (h : LG w0 T B F lv n D w) : RowsV w (.slice none 0 0) lv (.slice none 0 0) ⟨F, 0, fun _ => 0, n, D, []⟩ :=
  ⟨(rows_nil w F).i, h.ol.ents, bytesV_nil w⟩
/-- The longer log goes into its cell. -/
theorem LG.ent (h : LG w0 T B F lv n D w) (hO : OwnL w' B lv' (n + 1) D) (hg : w.grownBy w' lv.ownBlock) :
    LG w0 T B F lv' (n + 1) D (w'.setCell ⟨T, 14, none⟩ lv') ∧ w'.cell? ⟨T, 14, none⟩ = some lv ∧ w'.frozen? ⟨T, 14, none⟩ = false := by
  have hlt := h.msg.lt
  have hTB := h.hTB
  have hB := h.hB
  have hw0 := h.hw0
  obtain ⟨S, hrow, -⟩ := h.ol.ex
  have hk : ∀ k, k < B → w'.heap[k]? = w.heap[k]? := fun k hk => hg.block k (by omega) (fun e => by have := (World.ownsRow.lt hrow k e.symm).1; omega)
  have hS := (Only.refl T w').setCell (p := ⟨T, 14, none⟩) rfl lv'
  have hm' := h.msg.block (hk T hTB)
  have ht' := there_block h.th (hk T hTB)
  have hbw : Below w0.heap.size w0 w' := ⟨hg.os.trans h.bel.os, hg.tape.trans h.bel.tape, hg.output.trans h.bel.output, Nat.le_trans h.bel.size hg.size, fun k hk1 => (hk k (by omega)).trans (h.bel.block k hk1)⟩
  refine ⟨⟨hm'.set 14 (fun j hj => ?_), there_setW ht', hw0, hTB, ?_, hO.other hS hTB, hbw.setCell (p := ⟨T, 14, none⟩) hw0 lv'⟩, hm'.c14, by have := (ht' 14 (by omega)).2; rwa [Nat.zero_add] at this⟩
  · unfold msgF
    by_cases h13 : j = 13
    · rw [if_pos h13, if_neg (by omega), if_pos h13]
    · by_cases h14 : j = 14
      · rw [if_neg h13, if_pos h14, if_pos h14]
      · rw [if_neg h13, if_neg h14, if_neg h14, if_neg h13, if_neg h14]
  · rw [hS.size]
    exact Nat.le_trans hB hg.size
/-- An entry without events. -/
def fE (f : Int) : Nat → Ent := fun i => ⟨f + i, 0, fun _ _ => 0, fun _ => 0⟩
theorem LG.nilE (h : LG w0 T B F lv n D w) (E : Nat → Nat → Int) : OwnE w B (.slice none 0 0) 0 E := World.ownsRow_nil _ _ _ _
end
theorem lg_new {w0 w : World} {F : Nat → Int} (hb : Below w0.heap.size w0 w) (hs : w0.heap.size ≤ w.heap.size) (D : Nat → Ent) : LG w0 w.heap.size (w.heap.size + 1) F (.slice none 0 0) 0 D (w.alloc (Obj.cells (msgL F (.slice none 0 0) (.slice none 0 0) (.slice none 0 0)).toArray 30)) := by
  have e : (msgL F (.slice none 0 0) (.slice none 0 0) (.slice none 0 0)).toArray.size = 16 := by rw [List.size_toArray, msgL_len]
  have ht : (w.alloc (Obj.cells (msgL F (.slice none 0 0) (.slice none 0 0) (.slice none 0 0)).toArray 30)).there w.heap.size 0 16 := there_alloc_lit _ _ _ _ (by rw [e]; exact Nat.le_refl _)
  exact ⟨msgAt_new F _ _ _ 30 w, ht, hs, Nat.lt_succ_self _, by simp, ⟨fun _ => .slice none 0 0, World.ownsRow_nil _ _ _ _, fun i hi => absurd hi (Nat.not_lt_zero _)⟩, hb.alloc hs _⟩
end Go.Proofs.Ytembppihfcclcaa
