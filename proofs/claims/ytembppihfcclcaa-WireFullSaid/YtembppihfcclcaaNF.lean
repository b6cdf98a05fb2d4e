/-
  Wire: an entry that is being made; WireFull in plain words.
-/
import Derived.Test.YtembppihfcclcaaNA
namespace Go.Proofs.Ytembppihfcclcaa
set_option linter.unusedVariables false
open Go.ChangeShapes Go.WideShapes Go.ChangeAt Go.RowKit

set_option linter.unusedSimpArgs false
/-- An entry in the block behind w0, its events in rows of its own. -/
structure EG (w0 : World) (fr : Int) (sv : Value) (m : Nat) (E : Nat → Nat → Int) (I : Nat → Int) (w : World) : Prop where
  ent : EntAt w w0.heap.size 0 fr sv I
  th : w.there w0.heap.size 0 26
  own : OwnE w (w0.heap.size + 1) sv m E
  bel : Below w0.heap.size w0 w
  hB : w0.heap.size + 1 ≤ w.heap.size
theorem eg_new {w0 : World} (fr : Int) (I : Nat → Int) (E : Nat → Nat → Int) : EG w0 fr (.slice none 0 0) 0 E I (w0.alloc (Obj.cells (entL fr (.slice none 0 0) I).toArray 37)) := by
  have e : (entL fr (.slice none 0 0) I).toArray.size = 26 := by rw [List.size_toArray, entL_len]
  have ht : (w0.alloc (Obj.cells (entL fr (.slice none 0 0) I).toArray 37)).there w0.heap.size 0 26 := there_alloc_lit _ _ _ _ (by rw [e]; exact Nat.le_refl _)
  exact ⟨entAt_new fr _ I 37 w0, ht, World.ownsRow_nil _ _ _ _, (Below.refl w0.heap.size w0).alloc (Nat.le_refl _) _, by simp⟩
section
variable {w0 w : World} {fr : Int} {sv : Value} {m : Nat} {E : Nat → Nat → Int} {I : Nat → Int}
theorem EG.congr {I' : Nat → Int} (h : EG w0 fr sv m E I w) (he : ∀ k, k < 24 → I k = I' k) : EG w0 fr sv m E I' w := ⟨h.ent.congr he, h.th, h.own, h.bel, h.hB⟩
theorem EG.setIn (h : EG w0 fr sv m E I w) (k : Nat) (hk : k < 24) (x : Int) : EG w0 fr sv m E (updI I k x) (w.setCell ⟨w0.heap.size, 2 + k, none⟩ (.int (if k % 3 = 2 then .u8 else .i8) x)) := by
  have hOn := (Only.refl w0.heap.size w).setCell (p := ⟨w0.heap.size, 2 + k, none⟩) rfl (.int (if k % 3 = 2 then .u8 else .i8) x)
  refine ⟨h.ent.set (2 + k) (fun j hj => ?_), there_set h.th, h.own.other hOn (Nat.lt_succ_self _), h.bel.trans (hOn.below (Nat.le_refl _)), by rw [hOn.size]; exact h.hB⟩
  unfold entF inpV updI
  by_cases h0 : j = 0
  · rw [if_pos h0, if_pos h0, if_neg (by omega)]
  · by_cases h1 : j = 1
    · rw [if_neg h0, if_neg h0, if_pos h1, if_pos h1, if_neg (by omega)]
    · rw [if_neg h0, if_neg h0, if_neg h1, if_neg h1]
      by_cases h2 : j = 2 + k
      · subst h2
        rw [if_pos rfl, show 2 + k - 2 = k by omega, if_pos rfl]
      · have h3 : ¬ j - 2 = k := by omega
        rw [if_neg h2]
        simp only [if_neg h3]
end
/-- append of one event, as a step of the walk. -/
theorem wpList_app_ev {ops : Array Oper} {rest : List Oper} {o : Oper} {a : Act} {w w1 w0 : World} {Q : Exit → Act → World → Prop} (hg : o.guard = none)
    (s x : Operand) (ho : o.op = Op.call { callee := Callee.builtin Builtin.append, args := #[s, x], argTypes := #[31, 31] })
    {fr : Int} {sv : Value} {m : Nat} {E : Nat → Nat → Int} {I : Nat → Int} (e0 e1 e2 e3 : Int) (he : Hid (E m 0 = e0 ∧ E m 1 = e1 ∧ E m 2 = e2 ∧ E m 3 = e3)) (hG : Hid (EG w0 fr sv m E I w1)) (hm : m ≤ 1000) (hs : a.eval s = sv)
    (hw : w = w1.alloc (Obj.cells #[.int .i64 e0, .int .i64 e1, .int .i64 e2, .int .i64 e3] 43)) (hx : a.eval x = .slice (some ⟨w1.heap.size, 0, none⟩) 1 1)
    (h : ∀ g cap w', Hid (EG w0 fr (.slice (some ⟨g, 0, none⟩) (m + 1) cap) (m + 1) E I (w'.setCell ⟨w0.heap.size, 1, none⟩ (.slice (some ⟨g, 0, none⟩) (m + 1) cap))) → w'.cell? ⟨w0.heap.size, 1, none⟩ = some sv → w'.frozen? ⟨w0.heap.size, 1, none⟩ = false → wpList Try.prog ops Q rest (a.put o.dst (.slice (some ⟨g, 0, none⟩) (m + 1) cap)) w') :
    wpList Try.prog ops Q (o :: rest) a w := by
  obtain ⟨rfl, rfl, rfl, rfl⟩ := he.out
  refine wpList_plain hg fun K hK => ?_
  have hwn : Region.wanted o (yielded ops a.tmps) = true := by simp [Region.wanted, hg]
  have hg' := hG.out
  have hlt := hg'.hB
  have key := step_app_ev (ops := ops) (op := o) (a := a) (w := w) (w1 := w1) (K := K) (Q := Q) (E' := True) hg s x ho (w0.heap.size + 1) sv m E hg'.own hm hs hlt hw hx (by
    rintro v' w' hO hb ⟨g, cap, rfl⟩
    have e1 := hg'.ent.block (hb.block w0.heap.size (by omega))
    have t1 := there_block hg'.th (hb.block w0.heap.size (by omega))
    have hOn := (Only.refl w0.heap.size w').setCell (p := ⟨w0.heap.size, 1, none⟩) rfl (.slice (some ⟨g, 0, none⟩) (m + 1) cap)
    refine hK _ _ (h g cap w' (Lib.hid ⟨e1.set 1 (fun j _ => ?_), there_set t1, hO.other hOn (Nat.lt_succ_self _), (hg'.bel.trans (hb.mono (by omega))).trans (hOn.below (Nat.le_refl _)), by rw [hOn.size]; exact Nat.le_trans hlt hb.size⟩) ?_ ?_)
    · unfold entF
      by_cases h0 : j = 0
      · rw [if_pos h0, if_pos h0, if_neg (by omega)]
      · rw [if_neg h0, if_neg h0]; split <;> rfl
    · exact (World.cell?_of_block (hb.block w0.heap.size (by omega))).trans hg'.ent.z1
    · exact (World.frozen?_of_block (hb.block w0.heap.size (by omega))).trans (hg'.th 1 (by omega)).2)
  rwa [if_pos hwn] at key
/-- The events of each entry of WireFull; its inputs so far. -/
def xE (k : Nat) : Nat → Nat → Int := fun i j => if i < k then (if j = 0 then 2 else if j = 1 then i else if j = 2 then 1 else i) else (if j = 0 then 1 else if j = 1 then (i : Int) - k else if j = 2 then 2 else (i : Int) - k)
def bI (s : Nat) : Nat → Int := fun k => if k % 3 = 2 ∧ k / 3 < s then 1 else 0
theorem bI_next (s : Nat) (k : Nat) : updI (bI s) (s * 3 + 2) 1 k = bI (s + 1) k := by
  unfold updI bI
  by_cases h : k = s * 3 + 2
  · rw [if_pos h, if_pos (by omega)]
  · rw [if_neg h]
    by_cases h2 : k % 3 = 2 ∧ k / 3 < s
    · rw [if_pos h2, if_pos (by omega)]
    · rw [if_neg h2, if_neg (by omega)]
theorem xE_leave (k s : Nat) (h : s < k) : xE k s 0 = 2 ∧ xE k s 1 = s ∧ xE k s 2 = 1 ∧ xE k s 3 = s := by
  unfold xE
  simp [h]
theorem xE_join (k s : Nat) : xE k (k + s) 0 = 1 ∧ xE k (k + s) 1 = s ∧ xE k (k + s) 2 = 2 ∧ xE k (k + s) 3 = s := by
  unfold xE
  have h : ¬ k + s < k := by omega
  simp only [if_neg h]
  refine ⟨rfl, ?_, rfl, ?_⟩
  · show (((k + s : Nat) : Int)) - k = s; omega
  · show (((k + s : Nat) : Int)) - k = s; omega
def fD (k : Nat) : Nat → Ent := fun i => ⟨(i : Int), k + k, xE k, bI 8⟩
def fF : Nat → Int := fun k => if k = 0 then 5 else 0
def fM (k : Nat) : Msg := ⟨fF, 0, fun _ => 0, 16, fD k, []⟩
theorem fM_may (k : Nat) (hk : k < 9) : mayM (fM k) = true := by
  have h0 : (List.range 9).all (fun k => mayM (fM k)) = true := by kernel_rfl
  exact List.all_eq_true.1 h0 k (List.mem_range.2 hk)
theorem fM_len (k : Nat) (hk : k < 9) : (putM (fM k)).length = 19 + 16 * (32 + 10 * k) := by
  have h0 : (List.range 9).all (fun k => 4 + (bodyM (fM k)).length == 19 + 16 * (32 + 10 * k)) = true := by kernel_rfl
  have := eq_of_beq (List.all_eq_true.1 h0 k (List.mem_range.2 hk))
  rw [putM_eq, List.length_append, leB_len]
  exact this
theorem fM_b (k : Nat) (hk : k < 9) : MsgB (fM k) := by
  refine ⟨by show (0 : Int) ≤ 0 ∧ (0 : Int) < 65536; omega, by show (0 : Int) ≤ 0 ∧ (0 : Int) < 65536; omega, by show (0 : Int) ≤ 0 ∧ (0 : Int) < 4294967296; omega, by show (0 : Int) ≤ 0 ∧ (0 : Int) < 4294967296; omega, by show (0 : Int) ≤ 0 ∧ (0 : Int) < 18446744073709551616; omega, fun i hi => absurd hi (Nat.not_lt_zero _), fun i hi => absurd hi (Nat.not_lt_zero _), fun i hi => ?_, byteL_nil⟩
  have hi16 : i < 16 := hi
  refine ⟨?_, fun s hs j hj => ?_, fun q _ h3 => ?_, fun q _ h3 => ?_⟩
  · show _ ≤ (i : Int) ∧ (i : Int) ≤ _; omega
  · have hs' : s < k + k := hs
    show _ ≤ xE k s j ∧ xE k s j ≤ _
    unfold xE
    repeat' split
    all_goals omega
  · show _ ≤ bI 8 q ∧ bI 8 q ≤ _
    unfold bI
    split <;> omega
  · show _ ≤ bI 8 q ∧ bI 8 q ≤ _
    unfold bI
    split <;> omega
end Go.Proofs.Ytembppihfcclcaa
