/-
  Entry: rows of bytes of the call's own; the bytes of an entry.
-/
import Derived.Test.YtembppihfcclcaaF
namespace Go.Proofs.Ytembppihfcclcaa
set_option linter.unusedVariables false
open Go.ChangeShapes Go.WideShapes Go.ChangeAt Go.RowKit

def bv (bs : List Int) : List Value := bs.map (.int .u8)
theorem bv_append (a b : List Int) : bv (a ++ b) = bv a ++ bv b := List.map_append
theorem bv_len (a : List Int) : (bv a).length = a.length := List.length_map ..
/-- The value owns these bytes, in a block from number B on. -/
def OwnB (w : World) (B : Nat) (v : Value) (bs : List Int) : Prop := w.ownsRow B 5 1 v bs.length (bv bs)
theorem info5 : (Try.prog.info? 5).map (fun i => (i.zero, i.size, i.bytes)) = some (some (.int .u8 0), 1, 1) := by kernel_rfl
theorem OwnB.form {w : World} {B : Nat} {v : Value} {bs : List Int} (h : OwnB w B v bs) (hn : 0 < bs.length) : ∃ g cap, v = .slice (some ⟨g, 0, none⟩) bs.length cap ∧ B ≤ g ∧ g < w.heap.size ∧ bs.length ≤ cap ∧ cap ≤ maxLen := by
  rcases h.2 with ⟨-, h0⟩ | ⟨g, cap, cur, rfl, hb, hg, h1, h2, -⟩
  · omega
  · exact ⟨g, cap, rfl, hb, (Array.getElem?_eq_some_iff.1 hg).1, h1, h2⟩
theorem OwnB.below {w w' : World} {B B' : Nat} {v : Value} {bs : List Int} (h : OwnB w B v bs) (hb : Below B' w w') (hs : w.heap.size ≤ B') : OwnB w' B v bs := by
  refine h.kept (row := none) ⟨hb.os, hb.tape, hb.output, hb.size, fun k hk _ => hb.block k (by omega)⟩ ?_
  cases hv : v.ownBlock <;> simp
theorem OwnB.cell {w : World} {B g n cap : Nat} {bs : List Int} (h : OwnB w B (.slice (some ⟨g, 0, none⟩) n cap) bs) (j : Nat) (hj : j < bs.length) : w.cell? ⟨g, j, none⟩ = some (.int .u8 (bs.getD j 0)) := by
  obtain ⟨g', cap', e, -⟩ := h.form (by omega)
  injection e with e1 e2 e3
  subst e2
  have := World.ownsRow.cellAt h j (by omega)
  rw [this]
  unfold bv
  rw [List.getElem?_map, List.getElem?_eq_getElem hj, List.getD_eq_getElem?_getD, List.getElem?_eq_getElem hj]
  rfl
theorem OwnB.lit {w : World} (bs : List Int) (h : bs.length ≤ maxLen) : OwnB (w.alloc (.cells (bv bs).toArray 5)) w.heap.size (.slice (some ⟨w.heap.size, 0, none⟩) bs.length bs.length) bs := by
  have := World.ownsRow_lit (base := w.heap.size) (e := 5) (size := 1) w (bv bs).toArray bs.length (Nat.le_refl _) h (by rw [List.size_toArray, bv_len, Nat.mul_one])
  exact this
/-- append of bytes written out to a row of the call's own. -/
theorem step_app {ops : Array Oper} {rest : List Oper} {o : Oper} {a : Act} {Q : Exit → Act → World → Prop} (hgd : o.guard = none) (s x : Operand)
    (ho : o.op = .call { callee := .builtin .append, args := #[s, x], argTypes := #[28, 28] })
    (B : Nat) (v : Value) (bs ns : List Int) (w : World) (hs : a.eval s = v) (hown : OwnB w B v bs) (hB : B ≤ w.heap.size) (m T : Nat) (hT : w.heap.size = T) (hm : ns.length = m) (hx : a.eval x = .slice (some ⟨T, 0, none⟩) m m)
    (hl : bs.length + m ≤ 140737488355328)
    (h : ∀ v' w', OwnB w' B v' (bs ++ ns) → Below B w w' → wpList Try.prog ops Q rest (a.put o.dst v') w') : wpList Try.prog ops Q (o :: rest) a (w.alloc (Obj.cells (bv ns).toArray 5)) := by
  subst hT hm
  obtain ⟨i0, hi, hz0, hz1, hz2⟩ := info_parts info5
  refine wpList_append_own _ hgd s x 28 ho B 5 i0 (.int .u8 0) 1 1 Try.underlying28 hi hz0 hz1 hz2 rfl (by decide) v bs.length (bv bs) hs (World.ownsRow.alloc hown _) ⟨w.heap.size, 0, none⟩ ns.length ns.length (bv ns) hx (by rw [bv_len]; omega) ?_ ?_ (by unfold maxLen; omega) (by omega) (by simp; omega) ?_
  · intro j u hj
    rw [Go.WideShapes.add_plain, World.cell?_alloc_new, Nat.zero_add, List.getElem?_toArray]
    exact hj
  · intro u hu
    unfold bv at hu
    rw [List.mem_map] at hu
    obtain ⟨y, -, rfl⟩ := hu
    rfl
  · intro v' w' h1 h2 _
    refine h v' w' ?_ ?_
    · unfold OwnB
      rw [bv_append, List.length_append]
      exact h1
    · have hb := (Below.refl B w).alloc hB (Obj.cells (bv ns).toArray 5)
      refine hb.grown h2 (by simp; omega) ?_
      intro k hk
      have := World.ownsRow.lt hown k
      exact (this (by simpa using hk)).1
def headB (fr : Int) (n : Nat) : List Int := [fr % 256, fr / 256 % 256, fr / 65536 % 256, fr / 16777216 % 256, (n : Int) % 256]
def ev5 (E : Nat → Nat → Int) (i : Nat) : List Int := [E i 0 % 256, E i 1 % 256, E i 2 % 256, E i 2 / 256 % 256, E i 3 % 256]
def evsB (E : Nat → Nat → Int) : Nat → List Int
  | 0 => []
  | n + 1 => evsB E n ++ ev5 E n
theorem evsB_len (E : Nat → Nat → Int) : ∀ n, (evsB E n).length = 5 * n
  | 0 => rfl
  | n + 1 => by unfold evsB; rw [List.length_append, evsB_len E n]; rfl
def inpNZ (I : Nat → Int) (i : Nat) : Bool := !(I (i * 3) == 0 && (I (i * 3 + 1) == 0 && I (i * 3 + 2) == 0))
def inp3 (I : Nat → Int) (i : Nat) : List Int := [I (i * 3) % 256, I (i * 3 + 1) % 256, I (i * 3 + 2)]
def maskN (I : Nat → Int) : Nat → Nat
  | 0 => 0
  | s + 1 => if inpNZ I s then maskN I s ||| 2 ^ s else maskN I s
def inpsB (I : Nat → Int) : Nat → List Int
  | 0 => []
  | s + 1 => if inpNZ I s then inpsB I s ++ inp3 I s else inpsB I s
def putS (fr : Int) (n : Nat) (E : Nat → Nat → Int) (I : Nat → Int) (s : Nat) : List Int := headB fr n ++ (evsB E n ++ ((maskN I s : Int) :: inpsB I s))
def putB (fr : Int) (n : Nat) (E : Nat → Nat → Int) (I : Nat → Int) : List Int := putS fr n E I 8
theorem putS_len (fr : Int) (n : Nat) (E : Nat → Nat → Int) (I : Nat → Int) (s : Nat) : (putS fr n E I s).length = 6 + 5 * n + (inpsB I s).length := by
  unfold putS
  rw [List.length_append, List.length_append, evsB_len, List.length_cons]
  have : (headB fr n).length = 5 := rfl
  omega
theorem inpsB_len (I : Nat → Int) : ∀ s, (inpsB I s).length ≤ 3 * s
  | 0 => Nat.le_refl _
  | s + 1 => by
    have := inpsB_len I s
    unfold inpsB
    split
    · rw [List.length_append]; show _ + 3 ≤ _; omega
    · omega
theorem putS_mask (fr : Int) (n : Nat) (E : Nat → Nat → Int) (I : Nat → Int) (s : Nat) : (putS fr n E I s).getD (5 + 5 * n) 0 = (maskN I s : Int) := by
  unfold putS
  have h1 : (headB fr n).length = 5 := rfl
  rw [List.getD_eq_getElem?_getD, List.getElem?_append_right (by omega), List.getElem?_append_right (by rw [evsB_len]; omega), evsB_len, h1, show 5 + 5 * n - 5 - 5 * n = 0 by omega]
  rfl
theorem putS_setMask (fr : Int) (n : Nat) (E : Nat → Nat → Int) (I : Nat → Int) (s : Nat) (x : Int) : (putS fr n E I s).set (5 + 5 * n) x = headB fr n ++ (evsB E n ++ (x :: inpsB I s)) := by
  unfold putS
  have h1 : (headB fr n).length = 5 := rfl
  rw [List.set_append_right _ _ (by omega), h1, List.set_append_right _ _ (by rw [evsB_len]; omega), evsB_len, show 5 + 5 * n - 5 - 5 * n = 0 by omega]
  rfl
theorem maskN_lt (I : Nat → Int) : ∀ s, maskN I s < 2 ^ s
  | 0 => by show (0 : Nat) < 1; omega
  | s + 1 => by
    have := maskN_lt I s
    unfold maskN
    split
    · exact Nat.or_lt_two_pow (by rw [Nat.pow_succ]; omega) (Nat.pow_lt_pow_right (by omega) (by omega))
    · rw [Nat.pow_succ]; omega
theorem run_inp (I : Nat → Int) (n : Nat) (hn : n < 8) (w : World) : (Instr.index 35 (.agg (inpL I).toArray) (.int .i64 (n : Int))).run Try.prog w = .ok (.agg #[.int .i8 (I (n * 3)), .int .i8 (I (n * 3 + 1)), .int .u8 (I (n * 3 + 2))]) w := by
  rw [inpL_arr]
  rcases (by omega : n = 0 ∨ n = 1 ∨ n = 2 ∨ n = 3 ∨ n = 4 ∨ n = 5 ∨ n = 6 ∨ n = 7) with rfl | rfl | rfl | rfl | rfl | rfl | rfl | rfl
  all_goals simp [Instr.index, run_underlying Try.underlying35, asIntOf, go_sem]
theorem OwnB.stored {w : World} {B g n cap : Nat} {bs : List Int} (h : OwnB w B (.slice (some ⟨g, 0, none⟩) n cap) bs) (hn : 0 < bs.length) (j : Nat) (x : Int) : OwnB (w.setCell ⟨g, j, none⟩ (.int .u8 x)) B (.slice (some ⟨g, 0, none⟩) n cap) (bs.set j x) := by
  obtain ⟨g', cap', e, -⟩ := h.form hn
  injection e with e1 e2 e3
  subst e2
  have := (World.ownsRow.stored h j (.int .u8 x)).1
  unfold OwnB
  rw [List.length_set]
  unfold bv
  rw [List.map_set]
  exact this
theorem putS_next (fr : Int) (n : Nat) (E : Nat → Nat → Int) (I : Nat → Int) (s : Nat) (h : inpNZ I s = true) : putS fr n E I (s + 1) = headB fr n ++ (evsB E n ++ (((maskN I s ||| 2 ^ s : Nat) : Int) :: (inpsB I s ++ inp3 I s))) := by
  have e1 : maskN I (s + 1) = maskN I s ||| 2 ^ s := by show (if inpNZ I s then _ else _) = _; rw [if_pos h]
  have e2 : inpsB I (s + 1) = inpsB I s ++ inp3 I s := by show (if inpNZ I s then _ else _) = _; rw [if_pos h]
  unfold putS
  rw [e1, e2]
theorem putS_skip (fr : Int) (n : Nat) (E : Nat → Nat → Int) (I : Nat → Int) (s : Nat) (h : inpNZ I s = false) : putS fr n E I (s + 1) = putS fr n E I s := by
  have e1 : maskN I (s + 1) = maskN I s := by show (if inpNZ I s then _ else _) = _; rw [if_neg (by simp [h])]
  have e2 : inpsB I (s + 1) = inpsB I s := by show (if inpNZ I s then _ else _) = _; rw [if_neg (by simp [h])]
  unfold putS
  rw [e1, e2]
theorem or_u8 (a s : Nat) (ha : a < 2 ^ s) (hs : s < 8) : bits .or .u8 (a : Int) ((2 : Int) ^ s % 256) = ((a ||| 2 ^ s : Nat) : Int) := by
  have h0 : ∀ t : Nat, t < 8 → ∀ b : Nat, b < 2 ^ t → bits .or .u8 (b : Int) ((2 : Int) ^ t % 256) = ((b ||| 2 ^ t : Nat) : Int) := by
    decide +kernel
  exact h0 s hs a ha
theorem OwnB.mono {w : World} {B B' : Nat} {v : Value} {bs : List Int} (h : OwnB w B v bs) (hb : B' ≤ B) : OwnB w B' v bs := by
  refine ⟨h.1, ?_⟩
  rcases h.2 with hn | ⟨g, cap, cur, h1, h2, h3⟩
  · exact Or.inl hn
  · exact Or.inr ⟨g, cap, cur, h1, by omega, h3⟩
end Go.Proofs.Ytembppihfcclcaa
