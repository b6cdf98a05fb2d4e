/-
  Entry: slices.EqualFunc of entries; Front. Entry: rows of bytes of the call's own; the bytes of an entry. Entry: Put. Entry: rows of bytes; slices.Equal of bytes; the reader's byte. Entry: what Get's deferred closure does.
-/
import Derived.Test.YtembppihfcclcaaG01x
import Derived.WalkLawsBesides
import Derived.Defers
import Derived.Recover
namespace Go.Proofs.Ytembppihfcclcaa
set_option linter.unusedVariables false
open Go.ChangeShapes Go.WideShapes Go.ChangeAt Go.RowKit

structure Ent where
  fr : Int
  n : Nat
  E : Nat → Nat → Int
  I : Nat → Int
def sameD (x y : Ent) : Bool := sameB x.fr x.n x.E x.I y.fr y.n y.E y.I
def entsEq (D D' : Nat → Ent) : Nat → Bool
  | 0 => true
  | n + 1 => entsEq D D' n && sameD (D n) (D' n)
theorem entsEq_mono (D D' : Nat → Ent) (n m : Nat) (h : n ≤ m) (hb : entsEq D D' n = false) : entsEq D D' m = false := by
  induction m with
  | zero => have : n = 0 := by omega
            subst this; exact hb
  | succ m ih =>
    by_cases e : n = m + 1
    · subst e; exact hb
    · unfold entsEq; rw [ih (by omega), Bool.false_and]
/-- A row of entries, in memory. -/
def EntsAt (w : World) (b o n : Nat) (D : Nat → Ent) : Prop := ∀ i, i < n → ∃ sv, EntAt w b (o + i * 26) (D i).fr sv (D i).I ∧ EvsV w sv (D i).n (D i).E
def EntsV (w : World) (v : Value) (n : Nat) (D : Nat → Ent) : Prop :=
  ∃ a cap, v = .slice a n cap ∧ n ≤ cap ∧ cap ≤ maxLen ∧ (0 < n → ∃ b o, a = some ⟨b, o, none⟩ ∧ b < w.heap.size ∧ EntsAt w b o n D)
theorem EntsAt.below {w w' : World} {b o n : Nat} {D : Nat → Ent} {B : Nat} (h : EntsAt w b o n D) (hb : Below B w w') (hs : w.heap.size ≤ B) : EntsAt w' b o n D := fun i hi => by
  obtain ⟨sv, h1, h2⟩ := h i hi
  exact ⟨sv, h1.block (hb.block b (by have := h1.lt; omega)), h2.below hb hs⟩
theorem EntsV.below {w w' : World} {v : Value} {n : Nat} {D : Nat → Ent} {B : Nat} (h : EntsV w v n D) (hb : Below B w w') (hs : w.heap.size ≤ B) : EntsV w' v n D := by
  obtain ⟨a, cap, rfl, h1, h2, h3⟩ := h
  refine ⟨a, cap, rfl, h1, h2, fun hn => ?_⟩
  obtain ⟨b, o, rfl, hlt, he⟩ := h3 hn
  have := hb.size
  exact ⟨b, o, rfl, by omega, he.below hb hs⟩
set_option maxHeartbeats 2000000 in
theorem eqFunc_any (n n' : Nat) (D D' : Nat → Ent) (v v' : Value) (w : World) (h : EntsV w v n D) (h' : EntsV w v' n' D') :
    Calls Try.prog 51 #[v, v', .func (.func 52) #[] #[]] w fun e w' => e = .returned (.bool (decide (n = n') && entsEq D D' n)) ∧ Below w.heap.size w w' := by
  obtain ⟨a, cap, rfl, hnc, hcm, hev⟩ := h
  obtain ⟨a', cap', rfl, hnc', hcm', hev'⟩ := h'
  unfold maxLen at hcm hcm'
  by_cases hnn : n = n'
  · subst hnn
    have bnn : ((n : Int) == (n : Int)) = true := by simp
    rw [decide_eq_true rfl, Bool.true_and]
    have HEV := Lib.hid hev
    have HEV' := Lib.hid hev'
    clear hev hev'
    go_enter Try.func51, Try.ntmps51
    go_wp2_with fail
    go_loopw [17] (fun i wr => ∃ k : Nat, k ≤ n ∧ i = .int .i64 k ∧ entsEq D D' k = true ∧ Below w.heap.size w wr) (fun i _ => n - (intOf i).toNat)
    case atStart => exact ⟨0, by omega, rfl, rfl, Below.refl _ _⟩
    case round =>
      obtain ⟨k, hk, rfl, hok, hB⟩ := hrel
      have HB := Lib.hid hB
      have HOK := Lib.hid hok
      clear hok
      by_cases hlt : k < n
      · obtain ⟨b, o, rfl, hbl, hin⟩ := HEV.out (by omega)
        obtain ⟨b', o', rfl, hbl', hin'⟩ := HEV'.out (by omega)
        obtain ⟨sv, he, hs⟩ := (hin.below hB (Nat.le_refl _)) k hlt
        obtain ⟨sv', he', hs'⟩ := (hin'.below hB (Nat.le_refl _)) k hlt
        have hki : (k : Int) < (n : Int) := by omega
        have HN : Hid (entsEq D D' (k + 1) = (entsEq D D' k && sameD (D k) (D' k))) := Lib.hid rfl
        have HMono := Lib.hid (entsEq_mono D D' (k + 1) n (by omega))
        have HE := Lib.hid he
        have HE' := Lib.hid he'
        have HS := Lib.hid hs
        have HS' := Lib.hid hs'
        clear hB he he' hs hs' hin hin'
        generalize D k = x at *
        generalize D' k = y at *
        have o1 := HS.out.one x.fr x.I
        have o2 := HS'.out.one y.fr y.I
        have st1 := store_ent x.fr sv x.I o1 wr _ rfl
        have st2 := store_ent y.fr sv' y.I o2 (wr.alloc (Obj.cells (entL x.fr sv x.I).toArray 37)) (wr.heap.size + 1) (by simp)
        have HX := Lib.hid (((entAt_new x.fr sv x.I 37 wr).block (Below.heap_alloc _ (Obj.cells (entL y.fr sv' y.I).toArray 37) _ (by simp))))
        have HY : Hid (EntAt ((wr.alloc (Obj.cells (entL x.fr sv x.I).toArray 37)).alloc (Obj.cells (entL y.fr sv' y.I).toArray 37)) (wr.heap.size + 1) 0 y.fr sv' y.I) := Lib.hid (by have := entAt_new y.fr sv' y.I 37 (wr.alloc (Obj.cells (entL x.fr sv x.I).toArray 37)); simpa using this)
        have HE2 := Lib.hid (HE'.out.block (Below.heap_alloc wr (Obj.cells (entL x.fr sv x.I).toArray 37) b' HE'.out.lt))
        have HBB := Lib.hid (HB.out.alloc HB.out.size (Obj.cells (entL x.fr sv x.I).toArray 37))
        have HB2 := Lib.hid (HBB.out.alloc HBB.out.size (Obj.cells (entL y.fr sv' y.I).toArray 37))
        have HBW := Lib.hid (((Below.refl wr.heap.size wr).alloc (Nat.le_refl _) (Obj.cells (entL x.fr sv x.I).toArray 37)).alloc (by simp) (Obj.cells (entL y.fr sv' y.I).toArray 37))
        clear o1 o2
        go_wp2_with (first | (refine wpList_load_g (by rfl) 37 _ rfl b (o + k * 26) rfl _ _ HE.out.range Try.underlying37 rfl (size_ent _ _ _) ?_) | (refine wpList_load_g (by rfl) 37 _ rfl b' (o' + k * 26) rfl _ _ HE2.out.range Try.underlying37 rfl (size_ent _ _ _) ?_) | (refine wpList_load_g (by rfl) 37 _ rfl wr.heap.size 0 rfl _ _ HX.out.range Try.underlying37 rfl (size_ent _ _ _) ?_) | (refine wpList_load_g (by rfl) 37 _ rfl (wr.heap.size + 1) 0 rfl _ _ HY.out.range Try.underlying37 rfl (size_ent _ _ _) ?_))
        refine (same_any x.fr sv x.n x.E x.I y.fr sv' y.n y.E y.I _ (HS.out.below HBW.out (Nat.le_refl _)) (HS'.out.below HBW.out (Nat.le_refl _))).mono ?_
        rintro e w2 ⟨rfl, hb2⟩
        have HB3 := Lib.hid (HB2.out.trans (hb2.mono HB2.out.size))
        clear hb2 st1 st2 HX HY HE2 HBB HBW HB HE HE' HS HS' HB2
        have hsd : sameD x y = sameB x.fr x.n x.E x.I y.fr y.n y.E y.I := rfl
        rw [← hsd]
        clear hsd
        cases hs : sameD x y with
        | true =>
          have hrel : entsEq D D' (k + 1) = true := by rw [HN.out, HOK.out, hs]; rfl
          have HRel := Lib.hid hrel
          clear hs hrel HN
          go_wp2_with fail
          all_goals first | exact ⟨⟨k + 1, by omega, by go_num, HRel.out, HB3.out⟩, by simp [intOf]; omega⟩ | exact ⟨k + 1, by omega, by go_num, HRel.out, HB3.out⟩ | (simp [intOf]; omega) | go_roundw
        | false =>
          have hrel : entsEq D D' (k + 1) = false := by rw [HN.out, HOK.out, hs]; rfl
          have HRel := Lib.hid (HMono.out hrel)
          clear hs hrel HN
          go_wp2_with fail
          go_ret
          exact ⟨by rw [HRel.out]; rfl, HB3.out⟩
      · obtain rfl : k = n := by omega
        go_wp2_with fail
        go_ret
        exact ⟨by rw [HOK.out]; rfl, hB⟩
  · have bnn : ((n : Int) == (n' : Int)) = false := by rw [beq_eq_false_iff_ne]; omega
    rw [decide_eq_false hnn, Bool.false_and]
    clear hev hev'
    go_enter Try.func51, Try.ntmps51
    go_wp2_with fail
    go_ret
    exact ⟨rfl, Below.refl _ _⟩
end Go.Proofs.Ytembppihfcclcaa

namespace Go.Proofs.Ytembppihfcclcaa
set_option linter.unusedVariables false
open Go.ChangeShapes Go.WideShapes Go.ChangeAt Go.RowKit

def bv (bs : List Int) : List Value := bs.map (.int .u8)
theorem bv_append (a b : List Int) : bv (a ++ b) = bv a ++ bv b := List.map_append
theorem bv_len (a : List Int) : (bv a).length = a.length := List.length_map ..
/-- The value owns these bytes, in a block from number B on. -/
def OwnB (w : World) (B : Nat) (v : Value) (bs : List Int) : Prop := w.ownsRow B 5 1 v bs.length (bv bs)
theorem info5 : (Try.prog.info? 5).map (fun i => (i.zero, i.size, i.bytes)) = some (some (.int .u8 0), 1, 1) := by kernel_rfl
theorem OwnB.form {w : World} {B : Nat} {v : Value} {bs : List Int} (h : OwnB w B v bs) (hn : 0 < bs.length) : ∃ g cap, v = .slice (some ⟨g, 0, none⟩) bs.length cap ∧ B ≤ g ∧ g < w.heap.size ∧ bs.length ≤ cap ∧ cap ≤ maxLen := by
  rcases h.2 with ⟨-, h0⟩ | ⟨g, cap, cur, rfl, hb, hg, h1, h2, -⟩
  · omega
  · exact ⟨g, cap, rfl, hb, (Array.getElem?_eq_some_iff.1 hg).1, h1, h2⟩
theorem OwnB.below {w w' : World} {B B' : Nat} {v : Value} {bs : List Int} (h : OwnB w B v bs) (hb : Below B' w w') (hs : w.heap.size ≤ B') : OwnB w' B v bs := by
  refine h.kept (row := none) ⟨hb.os, hb.tape, hb.output, hb.size, fun k hk _ => hb.block k (by omega)⟩ ?_
  cases hv : v.ownBlock <;> simp
theorem OwnB.cell {w : World} {B g n cap : Nat} {bs : List Int} (h : OwnB w B (.slice (some ⟨g, 0, none⟩) n cap) bs) (j : Nat) (hj : j < bs.length) : w.cell? ⟨g, j, none⟩ = some (.int .u8 (bs.getD j 0)) := by
  obtain ⟨g', cap', e, -⟩ := h.form (by omega)
  injection e with e1 e2 e3
  subst e2
  have := World.ownsRow.cellAt h j (by omega)
  rw [this]
  unfold bv
  rw [List.getElem?_map, List.getElem?_eq_getElem hj, List.getD_eq_getElem?_getD, List.getElem?_eq_getElem hj]
  rfl
theorem OwnB.lit {w : World} (bs : List Int) (h : bs.length ≤ maxLen) : OwnB (w.alloc (.cells (bv bs).toArray 5)) w.heap.size (.slice (some ⟨w.heap.size, 0, none⟩) bs.length bs.length) bs := by
  have := World.ownsRow_lit (base := w.heap.size) (e := 5) (size := 1) w (bv bs).toArray bs.length (Nat.le_refl _) h (by rw [List.size_toArray, bv_len, Nat.mul_one])
  exact this
/-- append of bytes written out to a row of the call's own. -/
theorem step_app {ops : Array Oper} {rest : List Oper} {o : Oper} {a : Act} {Q : Exit → Act → World → Prop} (hgd : o.guard = none) (s x : Operand)
    (ho : o.op = .call { callee := .builtin .append, args := #[s, x], argTypes := #[28, 28] })
    (B : Nat) (v : Value) (bs ns : List Int) (w : World) (hs : a.eval s = v) (hown : OwnB w B v bs) (hB : B ≤ w.heap.size) (m T : Nat) (hT : w.heap.size = T) (hm : ns.length = m) (hx : a.eval x = .slice (some ⟨T, 0, none⟩) m m)
    (hl : bs.length + m ≤ 140737488355328)
    (h : ∀ v' w', OwnB w' B v' (bs ++ ns) → Below B w w' → wpList Try.prog ops Q rest (a.put o.dst v') w') : wpList Try.prog ops Q (o :: rest) a (w.alloc (Obj.cells (bv ns).toArray 5)) := by
  subst hT hm
  obtain ⟨i0, hi, hz0, hz1, hz2⟩ := info_parts info5
  refine wpList_append_own _ hgd s x 28 ho B 5 i0 (.int .u8 0) 1 1 Try.underlying28 hi hz0 hz1 hz2 rfl (by decide) v bs.length (bv bs) hs (World.ownsRow.alloc hown _) ⟨w.heap.size, 0, none⟩ ns.length ns.length (bv ns) hx (by rw [bv_len]; omega) ?_ ?_ (by unfold maxLen; omega) (by omega) (by simp; omega) ?_
  · intro j u hj
    rw [Go.WideShapes.add_plain, World.cell?_alloc_new, Nat.zero_add, List.getElem?_toArray]
    exact hj
  · intro u hu
    unfold bv at hu
    rw [List.mem_map] at hu
    obtain ⟨y, -, rfl⟩ := hu
    rfl
  · intro v' w' h1 h2 _
    refine h v' w' ?_ ?_
    · unfold OwnB
      rw [bv_append, List.length_append]
      exact h1
    · have hb := (Below.refl B w).alloc hB (Obj.cells (bv ns).toArray 5)
      refine hb.grown h2 (by simp; omega) ?_
      intro k hk
      have := World.ownsRow.lt hown k
      exact (this (by simpa using hk)).1
def headB (fr : Int) (n : Nat) : List Int := [fr % 256, fr / 256 % 256, fr / 65536 % 256, fr / 16777216 % 256, (n : Int) % 256]
def ev5 (E : Nat → Nat → Int) (i : Nat) : List Int := [E i 0 % 256, E i 1 % 256, E i 2 % 256, E i 2 / 256 % 256, E i 3 % 256]
def evsB (E : Nat → Nat → Int) : Nat → List Int
  | 0 => []
  | n + 1 => evsB E n ++ ev5 E n
theorem evsB_len (E : Nat → Nat → Int) : ∀ n, (evsB E n).length = 5 * n
  | 0 => rfl
  | n + 1 => by unfold evsB; rw [List.length_append, evsB_len E n]; rfl
def inpNZ (I : Nat → Int) (i : Nat) : Bool := !(I (i * 3) == 0 && (I (i * 3 + 1) == 0 && I (i * 3 + 2) == 0))
def inp3 (I : Nat → Int) (i : Nat) : List Int := [I (i * 3) % 256, I (i * 3 + 1) % 256, I (i * 3 + 2)]
def maskN (I : Nat → Int) : Nat → Nat
  | 0 => 0
  | s + 1 => if inpNZ I s then maskN I s ||| 2 ^ s else maskN I s
def inpsB (I : Nat → Int) : Nat → List Int
  | 0 => []
  | s + 1 => if inpNZ I s then inpsB I s ++ inp3 I s else inpsB I s
def putS (fr : Int) (n : Nat) (E : Nat → Nat → Int) (I : Nat → Int) (s : Nat) : List Int := headB fr n ++ (evsB E n ++ ((maskN I s : Int) :: inpsB I s))
def putB (fr : Int) (n : Nat) (E : Nat → Nat → Int) (I : Nat → Int) : List Int := putS fr n E I 8
theorem putS_len (fr : Int) (n : Nat) (E : Nat → Nat → Int) (I : Nat → Int) (s : Nat) : (putS fr n E I s).length = 6 + 5 * n + (inpsB I s).length := by
  unfold putS
  rw [List.length_append, List.length_append, evsB_len, List.length_cons]
  have : (headB fr n).length = 5 := rfl
  omega
theorem inpsB_len (I : Nat → Int) : ∀ s, (inpsB I s).length ≤ 3 * s
  | 0 => Nat.le_refl _
  | s + 1 => by
    have := inpsB_len I s
    unfold inpsB
    split
    · rw [List.length_append]; show _ + 3 ≤ _; omega
    · omega
theorem putS_mask (fr : Int) (n : Nat) (E : Nat → Nat → Int) (I : Nat → Int) (s : Nat) : (putS fr n E I s).getD (5 + 5 * n) 0 = (maskN I s : Int) := by
  unfold putS
  have h1 : (headB fr n).length = 5 := rfl
  rw [List.getD_eq_getElem?_getD, List.getElem?_append_right (by omega), List.getElem?_append_right (by rw [evsB_len]; omega), evsB_len, h1, show 5 + 5 * n - 5 - 5 * n = 0 by omega]
  rfl
theorem putS_setMask (fr : Int) (n : Nat) (E : Nat → Nat → Int) (I : Nat → Int) (s : Nat) (x : Int) : (putS fr n E I s).set (5 + 5 * n) x = headB fr n ++ (evsB E n ++ (x :: inpsB I s)) := by
  unfold putS
  have h1 : (headB fr n).length = 5 := rfl
  rw [List.set_append_right _ _ (by omega), h1, List.set_append_right _ _ (by rw [evsB_len]; omega), evsB_len, show 5 + 5 * n - 5 - 5 * n = 0 by omega]
  rfl
theorem maskN_lt (I : Nat → Int) : ∀ s, maskN I s < 2 ^ s
  | 0 => by show (0 : Nat) < 1; omega
  | s + 1 => by
    have := maskN_lt I s
    unfold maskN
    split
    · exact Nat.or_lt_two_pow (by rw [Nat.pow_succ]; omega) (Nat.pow_lt_pow_right (by omega) (by omega))
    · rw [Nat.pow_succ]; omega
theorem run_inp (I : Nat → Int) (n : Nat) (hn : n < 8) (w : World) : (Instr.index 35 (.agg (inpL I).toArray) (.int .i64 (n : Int))).run Try.prog w = .ok (.agg #[.int .i8 (I (n * 3)), .int .i8 (I (n * 3 + 1)), .int .u8 (I (n * 3 + 2))]) w := by
  rw [inpL_arr]
  rcases (by omega : n = 0 ∨ n = 1 ∨ n = 2 ∨ n = 3 ∨ n = 4 ∨ n = 5 ∨ n = 6 ∨ n = 7) with rfl | rfl | rfl | rfl | rfl | rfl | rfl | rfl
  all_goals simp [Instr.index, run_underlying Try.underlying35, asIntOf, go_sem]
theorem OwnB.stored {w : World} {B g n cap : Nat} {bs : List Int} (h : OwnB w B (.slice (some ⟨g, 0, none⟩) n cap) bs) (hn : 0 < bs.length) (j : Nat) (x : Int) : OwnB (w.setCell ⟨g, j, none⟩ (.int .u8 x)) B (.slice (some ⟨g, 0, none⟩) n cap) (bs.set j x) := by
  obtain ⟨g', cap', e, -⟩ := h.form hn
  injection e with e1 e2 e3
  subst e2
  have := (World.ownsRow.stored h j (.int .u8 x)).1
  unfold OwnB
  rw [List.length_set]
  unfold bv
  rw [List.map_set]
  exact this
theorem putS_next (fr : Int) (n : Nat) (E : Nat → Nat → Int) (I : Nat → Int) (s : Nat) (h : inpNZ I s = true) : putS fr n E I (s + 1) = headB fr n ++ (evsB E n ++ (((maskN I s ||| 2 ^ s : Nat) : Int) :: (inpsB I s ++ inp3 I s))) := by
  have e1 : maskN I (s + 1) = maskN I s ||| 2 ^ s := by show (if inpNZ I s then _ else _) = _; rw [if_pos h]
  have e2 : inpsB I (s + 1) = inpsB I s ++ inp3 I s := by show (if inpNZ I s then _ else _) = _; rw [if_pos h]
  unfold putS
  rw [e1, e2]
theorem putS_skip (fr : Int) (n : Nat) (E : Nat → Nat → Int) (I : Nat → Int) (s : Nat) (h : inpNZ I s = false) : putS fr n E I (s + 1) = putS fr n E I s := by
  have e1 : maskN I (s + 1) = maskN I s := by show (if inpNZ I s then _ else _) = _; rw [if_neg (by simp [h])]
  have e2 : inpsB I (s + 1) = inpsB I s := by show (if inpNZ I s then _ else _) = _; rw [if_neg (by simp [h])]
  unfold putS
  rw [e1, e2]
theorem or_u8 (a s : Nat) (ha : a < 2 ^ s) (hs : s < 8) : bits .or .u8 (a : Int) ((2 : Int) ^ s % 256) = ((a ||| 2 ^ s : Nat) : Int) := by
  have h0 : ∀ t : Nat, t < 8 → ∀ b : Nat, b < 2 ^ t → bits .or .u8 (b : Int) ((2 : Int) ^ t % 256) = ((b ||| 2 ^ t : Nat) : Int) := by
    decide +kernel
  exact h0 s hs a ha
theorem OwnB.mono {w : World} {B B' : Nat} {v : Value} {bs : List Int} (h : OwnB w B v bs) (hb : B' ≤ B) : OwnB w B' v bs := by
  refine ⟨h.1, ?_⟩
  rcases h.2 with hn | ⟨g, cap, cur, h1, h2, h3⟩
  · exact Or.inl hn
  · exact Or.inr ⟨g, cap, cur, h1, by omega, h3⟩
end Go.Proofs.Ytembppihfcclcaa

namespace Go.Proofs.Ytembppihfcclcaa
set_option linter.unusedVariables false
open Go.ChangeShapes Go.WideShapes Go.ChangeAt Go.RowKit

theorem put_no (fr : Int) (sv : Value) (n : Nat) (E : Nat → Nat → Int) (I : Nat → Int) (w : World) (hsv : EvsV w sv n E) (hno : mayE fr n E I = false) :
    Calls Try.prog 35 #[.agg (entL fr sv I).toArray] w fun e w' => e = .returned (.tuple #[.slice none 0 0, .int .i64 1]) ∧ Below w.heap.size w w' := by
  have HA := Lib.hid (entAt_new fr sv I 37 w)
  have HB := Lib.hid ((Below.refl w.heap.size w).alloc (Nat.le_refl _) (Obj.cells (entL fr sv I).toArray 37))
  have HV := Lib.hid (hsv.below HB.out (Nat.le_refl _))
  clear hsv
  go_enter Try.func35, Try.ntmps35
  go_wp2_with (refine wpList_load_g (by rfl) 37 _ rfl w.heap.size 0 rfl _ _ HA.out.range Try.underlying37 rfl (size_ent _ _ _) ?_)
  refine (may_any fr sv n E I _ HV.out).mono ?_
  rintro e w2 ⟨rfl, hb2⟩
  have HB2 := Lib.hid (HB.out.trans (hb2.mono HB.out.size))
  clear hb2
  rw [hno]
  go_wp2_with fail
  go_ret2
  exact ⟨rfl, HB2.out⟩
theorem mayE_parts {fr : Int} {n : Nat} {E : Nat → Nat → Int} {I : Nat → Int} (h : mayE fr n E I = true) : (0 ≤ fr ∧ fr < 1048576) ∧ evsOk E n = true ∧ inpAll I 8 = true := by
  unfold mayE at h
  simp only [Bool.and_eq_true, decide_eq_true_eq] at h
  exact ⟨⟨h.1, h.2.1⟩, h.2.2⟩
set_option maxHeartbeats 2000000 in
theorem put_yes (fr : Int) (sv : Value) (n : Nat) (E : Nat → Nat → Int) (I : Nat → Int) (w : World) (hsv : EvsV w sv n E) (hn16 : n ≤ 1000) (hyes : mayE fr n E I = true) :
    Calls Try.prog 35 #[.agg (entL fr sv I).toArray] w fun e w' => (∃ v, e = .returned (.tuple #[v, .int .i64 0]) ∧ OwnB w' w.heap.size v (putB fr n E I)) ∧ Below w.heap.size w w' := by
  have HA := Lib.hid (entAt_new fr sv I 37 w)
  have HB := Lib.hid ((Below.refl w.heap.size w).alloc (Nat.le_refl _) (Obj.cells (entL fr sv I).toArray 37))
  have HV := Lib.hid (hsv.below HB.out (Nat.le_refl _))
  have HV0 := Lib.hid hsv
  clear hsv
  go_enter Try.func35, Try.ntmps35
  go_wp2_with (refine wpList_load_g (by rfl) 37 _ rfl w.heap.size 0 rfl _ _ HA.out.range Try.underlying37 rfl (size_ent _ _ _) ?_)
  refine (may_any fr sv n E I _ HV.out).mono ?_
  rintro e w2 ⟨rfl, hb2⟩
  have HB2 := Lib.hid (HB.out.trans (hb2.mono HB.out.size))
  have HA2 := Lib.hid (HA.out.block (hb2.block _ HA.out.lt))
  clear hb2 HA HB HV
  rw [hyes]
  have c0 := HA2.out.z0
  have c1 := HA2.out.z1
  have c1' : ∀ o, (w2.alloc o).cell? ⟨w.heap.size, 1, none⟩ = some sv := fun o => (HA2.out.block (Below.heap_alloc w2 o _ HA2.out.lt)).z1
  obtain ⟨a, cap, hsve, hnc, hcm, hev⟩ := HV0.out
  subst hsve
  unfold maxLen at hcm
  have HEV := Lib.hid hev
  clear hev
  go_wp2_with fail
  have hO : OwnB (w2.alloc (Obj.cells #[.int .u8 (fr % 256), .int .u8 (fr / 256 % 256), .int .u8 (fr / 65536 % 256), .int .u8 (fr / 16777216 % 256), .int .u8 ((n : Int) % 256)] 5)) w2.heap.size (.slice (some ⟨w2.heap.size, 0, none⟩) 5 5) (headB fr n ++ evsB E 0) := OwnB.lit (headB fr n) (by unfold headB maxLen; simp)
  have hA3 := HA2.out.block (Below.heap_alloc w2 (Obj.cells #[.int .u8 (fr % 256), .int .u8 (fr / 256 % 256), .int .u8 (fr / 65536 % 256), .int .u8 (fr / 16777216 % 256), .int .u8 ((n : Int) % 256)] 5) _ HA2.out.lt)
  have hB3 := HB2.out.alloc HB2.out.size (Obj.cells #[.int .u8 (fr % 256), .int .u8 (fr / 256 % 256), .int .u8 (fr / 65536 % 256), .int .u8 (fr / 16777216 % 256), .int .u8 ((n : Int) % 256)] 5)
  have hTl : w.heap.size < w2.heap.size := HA2.out.lt
  have hTs : w2.heap.size ≤ (w2.alloc (Obj.cells #[.int .u8 (fr % 256), .int .u8 (fr / 256 % 256), .int .u8 (fr / 65536 % 256), .int .u8 (fr / 16777216 % 256), .int .u8 ((n : Int) % 256)] 5)).heap.size := by simp
  clear c0 c1 c1' HA2 HB2 hyes
  generalize w2.alloc (Obj.cells #[.int .u8 (fr % 256), .int .u8 (fr / 256 % 256), .int .u8 (fr / 65536 % 256), .int .u8 (fr / 16777216 % 256), .int .u8 ((n : Int) % 256)] 5) = w3 at *
  generalize w2.heap.size = T at *
  clear w2
  have HO := Lib.hid hO
  have HA := Lib.hid hA3
  have HB := Lib.hid hB3
  clear hO hA3 hB3
  go_loopw [4, 36] (fun v i wr => ∃ k : Nat, k ≤ n ∧ i = .int .i64 k ∧ OwnB wr T v (headB fr n ++ evsB E k) ∧ EntAt wr w.heap.size 0 fr (.slice a n cap) I ∧ Below w.heap.size w wr ∧ T ≤ wr.heap.size) (fun _ i _ => n - (intOf i).toNat)
  case atStart => exact ⟨0, by omega, rfl, HO.out, HA.out, HB.out, hTs⟩
  case round =>
    obtain ⟨k, hk, rfl, hO, hA, hB, hTs⟩ := hrel
    clear HO HA HB
    have HO := Lib.hid hO
    have HA := Lib.hid hA
    have HB := Lib.hid hB
    clear hO hA
    by_cases hlt : k < n
    · obtain ⟨b, o, rfl, hbl, hin⟩ := HEV.out (by omega)
      have he := hin.block (hB.block b hbl)
      have d0 := he.k k hlt
      have d1 := he.s k hlt
      have d2 := he.g k hlt
      have d3 := he.p k hlt
      have HN : Hid (evsB E (k + 1) = evsB E k ++ [E k 0 % 256, E k 1 % 256, E k 2 % 256, E k 2 / 256 % 256, E k 3 % 256]) := Lib.hid rfl
      have HL := Lib.hid (evsB_len E k)
      clear hB he hin
      generalize E k 0 = x0 at *
      generalize E k 1 = x1 at *
      generalize E k 2 = x2 at *
      generalize E k 3 = x3 at *
      have HBE := Lib.hid ((Below.refl T wr).alloc hTs (Obj.cells #[.int .i64 x0, .int .i64 x1, .int .i64 x2, .int .i64 x3] 43))
      go_wp2_with (at_builtin; refine step_app rfl (.tmp 40) (.tmp 57) rfl T _ (headB fr n ++ evsB E k) [x0 % 256, x1 % 256, x2 % 256, x2 / 256 % 256, x3 % 256] _ rfl (HO.out.below ((Below.refl wr.heap.size wr).alloc (Nat.le_refl _) (Obj.cells #[.int .i64 x0, .int .i64 x1, .int .i64 x2, .int .i64 x3] 43)) (Nat.le_refl _)) (Nat.le_trans hTs HBE.out.size) 5 (wr.heap.size + 1) (by simp) rfl rfl ?_ ?_)
      · rw [List.length_append, HL.out]; unfold headB; simp only [List.length_cons, List.length_nil]; omega
      intro v' w' hO' hb'
      try simp only [List.append_assoc] at hO'
      rw [← HN.out] at hO'
      have hB4 := HBE.out.trans hb'
      have HA4 := Lib.hid (HA.out.block (hB4.block _ hTl))
      have HB4 := Lib.hid (HB.out.trans (hB4.mono (by omega)))
      have HO4 := Lib.hid hO'
      have hTs4 := Nat.le_trans hTs (Nat.le_trans HBE.out.size hb'.size)
      clear hO' hb' hB4 HBE HO HA HB d0 d1 d2 d3 HN
      go_wp2_with fail
      all_goals first | exact ⟨⟨k + 1, by omega, by go_num, HO4.out, HA4.out, HB4.out, hTs4⟩, by simp [intOf]; omega⟩ | exact ⟨k + 1, by omega, by go_num, HO4.out, HA4.out, HB4.out, hTs4⟩ | (simp [intOf]; omega) | go_roundw
    · obtain rfl : k = n := by omega
      have HL := Lib.hid (evsB_len E k)
      obtain ⟨g, cp, rfl, hgT, hgl, hgc, hcpm⟩ := HO.out.form (by unfold headB; simp)
      have hlen : (headB fr k ++ evsB E k).length = 5 + 5 * k := by rw [List.length_append, HL.out]; rfl
      rw [hlen] at HO hgc ⊢
      go_wp2_with (at_builtin; refine step_app rfl (.tmp 62) (.tmp 63) rfl T _ (headB fr k ++ evsB E k) [0] _ rfl HO.out hTs 1 _ rfl rfl rfl (by rw [hlen]; omega) ?_)
      intro v' w' hO' hb'
      have hO2 : OwnB w' T v' (putS fr k E I 0) := hO'
      have HO2 := Lib.hid hO2
      have HA2 := Lib.hid (HA.out.block (hb'.block _ hTl))
      have HB2 := Lib.hid (HB.out.trans (hb'.mono (by omega)))
      have hTs2 := Nat.le_trans hTs hb'.size
      clear hO' hO2 hb' HO HA HB hlen hgT hgl hgc hcpm hB
      go_wp2_with (refine wpList_load_g (by rfl) 35 _ rfl w.heap.size 2 rfl _ _ HA2.out.inpRange0 Try.underlying35 rfl (size_inps _) ?_)
      go_loopw [4, 67] (fun v i wr => ∃ s : Nat, s ≤ 8 ∧ i = .int .i64 s ∧ OwnB wr T v (putS fr k E I s) ∧ Below w.heap.size w wr ∧ T ≤ wr.heap.size) (fun _ i _ => 8 - (intOf i).toNat)
      case atStart => exact ⟨0, by omega, rfl, HO2.out, HB2.out, hTs2⟩
      case round =>
        obtain ⟨s, hs, rfl, hO, hB, hTs⟩ := hrel
        clear HO2 HB2 HA2
        have HO := Lib.hid hO
        have HB := Lib.hid hB
        clear hO hB
        by_cases hlt : s < 8
        · obtain ⟨g, cp, rfl, hgT, hgl, hgc, hcpm⟩ := HO.out.form (by rw [putS_len]; omega)
          have hI := fun W => run_inp I s hlt W
          have hin : (5 + 5 * k : Int) < ((putS fr k E I s).length : Int) := by rw [putS_len]; omega
          have cm := HO.out.cell (5 + 5 * k) (by rw [putS_len]; omega)
          rw [putS_mask] at cm
          have cmo : ∀ o, (wr.alloc o).cell? ⟨g, 5 + 5 * k, none⟩ = some (.int .u8 (maskN I s)) := fun o => (World.cell?_of_block (Below.heap_alloc wr o g hgl)).trans cm
          have fmo : ∀ o, (wr.alloc o).frozen? ⟨g, 5 + 5 * k, none⟩ = false := fun o => (World.frozen?_of_block (Below.heap_alloc wr o g hgl)).trans (World.ownsRow.frozenAt HO.out _)
          generalize (putS fr k E I s).length = LL at *
          obtain ⟨x, hx'⟩ : ∃ x, I (s * 3) = x := ⟨_, rfl⟩
          obtain ⟨y, hy'⟩ : ∃ y, I (s * 3 + 1) = y := ⟨_, rfl⟩
          obtain ⟨z, hz'⟩ : ∃ z, I (s * 3 + 2) = z := ⟨_, rfl⟩
          simp only [hx', hy', hz'] at hI
          have hM := or_u8 (maskN I s) s (maskN_lt I s) hlt
          have HNZ : Hid (inpNZ I s = !(x == 0 && (y == 0 && z == 0))) := Lib.hid (by unfold inpNZ; rw [hx', hy', hz'])
          have HI3 : Hid (inp3 I s = [x % 256, y % 256, z]) := Lib.hid (by unfold inp3; rw [hx', hy', hz'])
          have HNext := Lib.hid (putS_next fr k E I s)
          have HSkip := Lib.hid (putS_skip fr k E I s)
          have HLe := Lib.hid (inpsB_len I s)
          have HSt : Hid (∀ M : Int, OwnB (wr.setCell ⟨g, 5 + 5 * k, none⟩ (.int .u8 M)) T (.slice (some ⟨g, 0, none⟩) LL cp) (headB fr k ++ (evsB E k ++ (M :: inpsB I s)))) := Lib.hid (fun M => by
            rw [← putS_setMask]; exact HO.out.stored (by rw [putS_len]; omega) _ M)
          clear hx' hy' hz' cm
          generalize ((maskN I s ||| 2 ^ s : Nat) : Int) = M at *
          rcases hx : (x == 0) with _ | _
          · have hnz : inpNZ I s = true := by rw [HNZ.out]; simp [hx]
            have hnx := HNext.out hnz
            rw [HI3.out] at hnx
            have HNX := Lib.hid hnx
            clear hnz hnx HNZ HI3 HNext HSkip
            have HBW := Lib.hid (((Below.refl T wr).setCell (p := ⟨g, 5 + 5 * k, none⟩) hgT (.int .u8 M)).alloc (by simpa using hTs) (Obj.cells #[.int .i8 x, .int .i8 y, .int .u8 z] 34))
            have HOW := Lib.hid ((HSt.out M).below ((Below.refl (wr.setCell ⟨g, 5 + 5 * k, none⟩ (.int .u8 M)).heap.size _).alloc (Nat.le_refl _) (Obj.cells #[.int .i8 x, .int .i8 y, .int .u8 z] 34)) (Nat.le_refl _))
            clear HSt HO
            go_wp2_with (at_builtin; refine step_app rfl (.tmp 83) (.tmp 92) rfl T _ (headB fr k ++ (evsB E k ++ (M :: inpsB I s))) [x % 256, y % 256, z] _ rfl HOW.out (Nat.le_trans hTs HBW.out.size) 3 (wr.heap.size + 1) (by simp) rfl rfl ?_ ?_)
            · have := HLe.out
              rw [List.length_append, List.length_append, HL.out, List.length_cons]; unfold headB; simp only [List.length_cons, List.length_nil]; omega
            intro v2 w3 hO2 hb2
            try simp only [List.append_assoc, List.cons_append] at hO2
            rw [← HNX.out] at hO2
            have hB5 := HBW.out.trans hb2
            have HB5 := Lib.hid (HB.out.trans (hB5.mono (by omega)))
            have HO5 := Lib.hid hO2
            have hTs5 := Nat.le_trans hTs hB5.size
            clear hO2 hb2 hB5 HBW HOW HB HNX HLe cmo fmo hI hM
            go_wp2_with fail
            all_goals first | exact ⟨⟨s + 1, by omega, by go_num, HO5.out, HB5.out, hTs5⟩, by simp [intOf]; omega⟩ | exact ⟨s + 1, by omega, by go_num, HO5.out, HB5.out, hTs5⟩ | (simp [intOf]; omega) | go_roundw
          obtain rfl := eq_of_beq hx
          rcases hy : (y == 0) with _ | _
          · have hnz : inpNZ I s = true := by rw [HNZ.out]; simp [hy]
            have hnx := HNext.out hnz
            rw [show inp3 I s = [0, y % 256, z] from HI3.out] at hnx
            have HNX := Lib.hid hnx
            clear hnz hnx HNZ HI3 HNext HSkip
            have HBW := Lib.hid (((Below.refl T wr).setCell (p := ⟨g, 5 + 5 * k, none⟩) hgT (.int .u8 M)).alloc (by simpa using hTs) (Obj.cells #[.int .i8 0, .int .i8 y, .int .u8 z] 34))
            have HOW := Lib.hid ((HSt.out M).below ((Below.refl (wr.setCell ⟨g, 5 + 5 * k, none⟩ (.int .u8 M)).heap.size _).alloc (Nat.le_refl _) (Obj.cells #[.int .i8 0, .int .i8 y, .int .u8 z] 34)) (Nat.le_refl _))
            clear HSt HO
            go_wp2_with (at_builtin; refine step_app rfl (.tmp 83) (.tmp 92) rfl T _ (headB fr k ++ (evsB E k ++ (M :: inpsB I s))) [0, y % 256, z] _ rfl HOW.out (Nat.le_trans hTs HBW.out.size) 3 (wr.heap.size + 1) (by simp) rfl rfl ?_ ?_)
            · have := HLe.out
              rw [List.length_append, List.length_append, HL.out, List.length_cons]; unfold headB; simp only [List.length_cons, List.length_nil]; omega
            intro v2 w3 hO2 hb2
            try simp only [List.append_assoc, List.cons_append] at hO2
            rw [← HNX.out] at hO2
            have hB5 := HBW.out.trans hb2
            have HB5 := Lib.hid (HB.out.trans (hB5.mono (by omega)))
            have HO5 := Lib.hid hO2
            have hTs5 := Nat.le_trans hTs hB5.size
            clear hO2 hb2 hB5 HBW HOW HB HNX HLe cmo fmo hI hM
            go_wp2_with fail
            all_goals first | exact ⟨⟨s + 1, by omega, by go_num, HO5.out, HB5.out, hTs5⟩, by simp [intOf]; omega⟩ | exact ⟨s + 1, by omega, by go_num, HO5.out, HB5.out, hTs5⟩ | (simp [intOf]; omega) | go_roundw
          obtain rfl := eq_of_beq hy
          rcases hz : (z == 0) with _ | _
          · have hnz : inpNZ I s = true := by rw [HNZ.out]; simp [hz]
            have hnx := HNext.out hnz
            rw [show inp3 I s = [0, 0, z] from HI3.out] at hnx
            have HNX := Lib.hid hnx
            clear hnz hnx HNZ HI3 HNext HSkip
            have HBW := Lib.hid (((Below.refl T wr).setCell (p := ⟨g, 5 + 5 * k, none⟩) hgT (.int .u8 M)).alloc (by simpa using hTs) (Obj.cells #[.int .i8 0, .int .i8 0, .int .u8 z] 34))
            have HOW := Lib.hid ((HSt.out M).below ((Below.refl (wr.setCell ⟨g, 5 + 5 * k, none⟩ (.int .u8 M)).heap.size _).alloc (Nat.le_refl _) (Obj.cells #[.int .i8 0, .int .i8 0, .int .u8 z] 34)) (Nat.le_refl _))
            clear HSt HO
            go_wp2_with (at_builtin; refine step_app rfl (.tmp 83) (.tmp 92) rfl T _ (headB fr k ++ (evsB E k ++ (M :: inpsB I s))) [0, 0, z] _ rfl HOW.out (Nat.le_trans hTs HBW.out.size) 3 (wr.heap.size + 1) (by simp) rfl rfl ?_ ?_)
            · have := HLe.out
              rw [List.length_append, List.length_append, HL.out, List.length_cons]; unfold headB; simp only [List.length_cons, List.length_nil]; omega
            intro v2 w3 hO2 hb2
            try simp only [List.append_assoc, List.cons_append] at hO2
            rw [← HNX.out] at hO2
            have hB5 := HBW.out.trans hb2
            have HB5 := Lib.hid (HB.out.trans (hB5.mono (by omega)))
            have HO5 := Lib.hid hO2
            have hTs5 := Nat.le_trans hTs hB5.size
            clear hO2 hb2 hB5 HBW HOW HB HNX HLe cmo fmo hI hM
            go_wp2_with fail
            all_goals first | exact ⟨⟨s + 1, by omega, by go_num, HO5.out, HB5.out, hTs5⟩, by simp [intOf]; omega⟩ | exact ⟨s + 1, by omega, by go_num, HO5.out, HB5.out, hTs5⟩ | (simp [intOf]; omega) | go_roundw
          obtain rfl := eq_of_beq hz
          have hnz : inpNZ I s = false := by rw [HNZ.out]; rfl
          have hO5 := HO.out.below ((Below.refl wr.heap.size wr).alloc (Nat.le_refl _) (Obj.cells #[.int .i8 0, .int .i8 0, .int .u8 0] 34)) (Nat.le_refl _)
          rw [← HSkip.out hnz] at hO5
          have HO5 := Lib.hid hO5
          have hTs5 : T ≤ (wr.alloc (Obj.cells #[.int .i8 0, .int .i8 0, .int .u8 0] 34)).heap.size := by simp; omega
          have HB5 := Lib.hid (HB.out.alloc HB.out.size (Obj.cells #[.int .i8 0, .int .i8 0, .int .u8 0] 34))
          clear hnz hO5 HNZ HI3 HNext HSkip HSt HO HB HLe cmo fmo hM
          go_wp2_with fail
          all_goals first | exact ⟨⟨s + 1, by omega, by go_num, HO5.out, HB5.out, hTs5⟩, by simp [intOf]; omega⟩ | exact ⟨s + 1, by omega, by go_num, HO5.out, HB5.out, hTs5⟩ | (simp [intOf]; omega) | go_roundw
        · obtain rfl : s = 8 := by omega
          go_wp2_with fail
          go_ret2
          exact ⟨⟨_, rfl, HO.out.mono (by omega)⟩, HB.out⟩
end Go.Proofs.Ytembppihfcclcaa

namespace Go.Proofs.Ytembppihfcclcaa
set_option linter.unusedVariables false
open Go.ChangeShapes Go.WideShapes Go.ChangeAt Go.RowKit

/-- A row of bytes in memory. -/
def BytesAt (w : World) (b o : Nat) (bs : List Int) : Prop := ∀ i, i < bs.length → w.cell? ⟨b, o + i, none⟩ = some (.int .u8 (bs.getD i 0))
def BytesV (w : World) (v : Value) (bs : List Int) : Prop :=
  ∃ a cap, v = .slice a bs.length cap ∧ bs.length ≤ cap ∧ cap ≤ maxLen ∧ (0 < bs.length → ∃ b o, a = some ⟨b, o, none⟩ ∧ b < w.heap.size ∧ BytesAt w b o bs)
theorem BytesAt.block {w w' : World} {b o : Nat} {bs : List Int} (h : BytesAt w b o bs) (k : w'.heap[b]? = w.heap[b]?) : BytesAt w' b o bs := fun i hi => (World.cell?_of_block k).trans (h i hi)
theorem BytesV.below {w w' : World} {v : Value} {bs : List Int} {B : Nat} (h : BytesV w v bs) (hb : Below B w w') (hs : w.heap.size ≤ B) : BytesV w' v bs := by
  obtain ⟨a, cap, rfl, h1, h2, h3⟩ := h
  refine ⟨a, cap, rfl, h1, h2, fun hn => ?_⟩
  obtain ⟨b, o, rfl, hlt, he⟩ := h3 hn
  have := hb.size
  exact ⟨b, o, rfl, by omega, he.block (hb.block b (by omega))⟩
theorem OwnB.bytes {w : World} {B : Nat} {v : Value} {bs : List Int} (h : OwnB w B v bs) (hn : 0 < bs.length) : BytesV w v bs := by
  obtain ⟨g, cap, rfl, h1, h2, h3, h4⟩ := h.form hn
  exact ⟨_, _, rfl, h3, h4, fun _ => ⟨g, 0, rfl, h2, fun i hi => by rw [Nat.zero_add]; exact h.cell i hi⟩⟩
theorem getD_eq_of {a b : List Int} (hl : a.length = b.length) (h : ∀ i, i < a.length → a.getD i 0 = b.getD i 0) : a = b := by
  apply List.ext_getElem hl
  intro i h1 h2
  have := h i h1
  rwa [List.getD_eq_getElem?_getD, List.getD_eq_getElem?_getD, List.getElem?_eq_getElem h1, List.getElem?_eq_getElem h2] at this
set_option maxHeartbeats 1000000 in
theorem eqByte_any (v v' : Value) (bs bs' : List Int) (w : World) (h : BytesV w v bs) (h' : BytesV w v' bs') :
    Calls Try.prog 70 #[v, v'] w fun e w' => e = .returned (.bool (decide (bs = bs'))) ∧ Below w.heap.size w w' := by
  obtain ⟨a, cap, rfl, hnc, hcm, hev⟩ := h
  obtain ⟨a', cap', rfl, hnc', hcm', hev'⟩ := h'
  unfold maxLen at hcm hcm'
  by_cases hnn : bs.length = bs'.length
  · have HAll := Lib.hid (fun h => getD_eq_of hnn h)
    have HNo : Hid (∀ i, bs.getD i 0 ≠ bs'.getD i 0 → decide (bs = bs') = false) := Lib.hid (fun i hi => decide_eq_false (fun e => hi (by rw [e])))
    obtain ⟨n, hn⟩ : ∃ n, n = bs.length := ⟨_, rfl⟩
    rw [← hnn] at hev' hnc' ⊢
    rw [← hn] at HAll hev hev' hnc hnc' ⊢
    have HN := Lib.hid hn
    have HN' := Lib.hid (hn.trans hnn)
    have bnn : ((n : Int) == (n : Int)) = true := by simp
    have HEV := Lib.hid hev
    have HEV' := Lib.hid hev'
    clear hev hev' hnn hn
    go_enter Try.func70, Try.ntmps70
    go_wp2_with fail
    go_loopw [13] (fun i wr => ∃ k : Nat, k ≤ n ∧ i = .int .i64 k ∧ (∀ j, j < k → bs.getD j 0 = bs'.getD j 0) ∧ Below w.heap.size w wr) (fun i _ => n - (intOf i).toNat)
    case atStart => exact ⟨0, by omega, rfl, fun j hj => by omega, Below.refl _ _⟩
    case round =>
      obtain ⟨k, hk, rfl, hok, hB⟩ := hrel
      have HB := Lib.hid hB
      have HOK := Lib.hid hok
      clear hok
      by_cases hlt : k < n
      · obtain ⟨b, o, rfl, hbl, hin⟩ := HEV.out (by omega)
        obtain ⟨b', o', rfl, hbl', hin'⟩ := HEV'.out (by omega)
        have d0 := cell_regrown ((hin.block (hB.block b hbl)) k (by rw [← HN.out]; exact hlt))
        have d0' := cell_regrown ((hin'.block (hB.block b' hbl')) k (by rw [← HN'.out]; exact hlt))
        have hki : (k : Int) < (n : Int) := by omega
        have HNo2 := Lib.hid (HNo.out k)
        have HOK2 : Hid (bs.getD k 0 = bs'.getD k 0 → ∀ j, j < k + 1 → bs.getD j 0 = bs'.getD j 0) := Lib.hid (fun h j hj => by
          by_cases e : j = k
          · subst e; exact h
          · exact HOK.out j (by omega))
        clear hB hin hin'
        generalize bs.getD k 0 = x at *
        generalize bs'.getD k 0 = y at *
        rcases hb : (x == y) with _ | _
        · have hne : x ≠ y := by simpa using hb
          have HRel := Lib.hid (HNo2.out hne)
          have hbn : (x != y) = true := by simpa using hne
          clear hne HNo2 HOK2
          go_wp2_with fail
          refine wp_region_quiet_below (by kernel_rfl) (by kernel_rfl) ?_
          repeat (go_big_quiet_step (fail))
          refine wpQuiet_nil ?_
          intro w10 hw'
          obtain ⟨⟨nq, osq⟩, hw3⟩ := hw'
          have HW := Lib.hid (HB.out.trans ((below_regrown _ nq osq).mono HB.out.size))
          rw [← hw3] at HW
          clear hw3 d0 d0' HB
          go_wp2_with fail
          go_ret
          exact ⟨by rw [HRel.out]; rfl, HW.out⟩
        · have heq := eq_of_beq hb
          subst heq
          have HRel := Lib.hid (HOK2.out rfl)
          have hbn : (x != x) = false := by simp
          clear HNo2 HOK2
          go_wp2_with fail
          refine wp_region_quiet_below (by kernel_rfl) (by kernel_rfl) ?_
          repeat (go_big_quiet_step (fail))
          refine wpQuiet_nil ?_
          intro w10 hw'
          obtain ⟨⟨nq, osq⟩, hw3⟩ := hw'
          have HW := Lib.hid (HB.out.trans ((below_regrown _ nq osq).mono HB.out.size))
          rw [← hw3] at HW
          clear hw3 d0 d0' HB
          go_wp2_with fail
          all_goals first | exact ⟨⟨k + 1, by omega, by go_num, HRel.out, HW.out⟩, by simp [intOf]; omega⟩ | exact ⟨k + 1, by omega, by go_num, HRel.out, HW.out⟩ | (simp [intOf]; omega) | go_roundw
      · obtain rfl : k = n := by omega
        go_wp2_with fail
        go_ret
        exact ⟨by rw [decide_eq_true (HAll.out HOK.out)]; rfl, hB⟩
  · have bnn : ((bs.length : Int) == (bs'.length : Int)) = false := by rw [beq_eq_false_iff_ne]; omega
    rw [decide_eq_false (fun e => hnn (by rw [e]))]
    clear hev hev'
    go_enter Try.func70, Try.ntmps70
    go_wp2_with fail
    go_ret
    exact ⟨rfl, Below.refl _ _⟩
/-- Only block b may have changed. -/
structure Only (b : Nat) (w w' : World) : Prop where
  os : w'.os = w.os
  tape : w'.tape = w.tape
  output : w'.output = w.output
  size : w'.heap.size = w.heap.size
  block : ∀ k, k ≠ b → w'.heap[k]? = w.heap[k]?
theorem Only.refl (b : Nat) (w : World) : Only b w w := ⟨rfl, rfl, rfl, rfl, fun _ _ => rfl⟩
theorem Only.trans {b : Nat} {x y z : World} (h : Only b x y) (k : Only b y z) : Only b x z :=
  ⟨k.os.trans h.os, k.tape.trans h.tape, k.output.trans h.output, k.size.trans h.size, fun i hi => (k.block i hi).trans (h.block i hi)⟩
theorem Only.drew {b : Nat} {a w : World} (h : Only b a w) : Only b a w.drew := ⟨h.os, h.tape, h.output, h.size, h.block⟩
theorem Only.setCell {b : Nat} {a w : World} (h : Only b a w) {p : Addr} (hp : p.block = b) (u : Value) : Only b a (w.setCell p u) :=
  h.trans ⟨rfl, rfl, rfl, by simp [World.setCell], fun k hk => Below.heap_setCell _ _ _ _ (by omega)⟩
theorem Only.below {b B : Nat} {w w' : World} (h : Only b w w') (hb : B ≤ b) : Below B w w' :=
  ⟨h.os, h.tape, h.output, by rw [h.size]; exact Nat.le_refl _, fun k hk => h.block k (by omega)⟩
/-- A reader at block R has come to place i of the L bytes that lie from place o of block b on. -/
structure RdAt (w : World) (R b o L C i : Nat) : Prop where
  cell : ∃ a, w.cell? ⟨R, 0, none⟩ = some (.slice a (L - i) (C - i)) ∧ (i < L → a = some ⟨b, o + i, none⟩)
  fz : w.frozen? ⟨R, 0, none⟩ = false
  le : i ≤ L
  lc : L ≤ C
  cm : C ≤ maxLen
theorem RdAt.block {w w' : World} {R b o L C i : Nat} (h : RdAt w R b o L C i) (k : w'.heap[R]? = w.heap[R]?) : RdAt w' R b o L C i := by
  obtain ⟨⟨a, h1, h2⟩, h3, h4, h5, h6⟩ := h
  exact ⟨⟨a, (World.cell?_of_block k).trans h1, h2⟩, (World.frozen?_of_block k).trans h3, h4, h5, h6⟩
theorem RdAt.lt {w : World} {R b o L C i : Nat} (h : RdAt w R b o L C i) : R < w.heap.size := by
  obtain ⟨⟨a, h1, h2⟩, h3⟩ := h
  exact block_of_cell h1
def wrongP : List PanicEntry := [{ v := .iface 103 (.agg #[]), recovered := false }]
theorem byte_end (R b o L C : Nat) (w : World) (h : RdAt w R b o L C L) :
    Calls Try.prog 69 #[.pointer (some ⟨R, 0, none⟩)] w fun e w' => e = .panicked wrongP ∧ w' = w := by
  obtain ⟨⟨a, hc, -⟩, hf, -, hlc, hcm⟩ := h
  rw [Nat.sub_self] at hc
  go_enter Try.func69, Try.ntmps69
  go_wp2
  exact ⟨rfl, rfl, rfl⟩
def zz (bs : List Int) (i : Nat) : Int := bs.getD i 0
def ByteL (bs : List Int) : Prop := ∀ i, 0 ≤ zz bs i ∧ zz bs i < 256
theorem byte_any (R b o L C i : Nat) (bs : List Int) (w : World) (hl : bs.length = L) (hby : ByteL bs) (h : RdAt w R b o L C i) (hi : i < L) (hb : BytesAt w b o bs) (hRb : b ≠ R) :
    Calls Try.prog 69 #[.pointer (some ⟨R, 0, none⟩)] w fun e w' => e = .returned (.int .i64 (zz bs i)) ∧ RdAt w' R b o L C (i + 1) ∧ Only R w w' := by
  obtain ⟨⟨a, hc, ha⟩, hf, -, hlc, hcm⟩ := h
  obtain rfl := ha hi
  have d0 : w.cell? ⟨b, o + i, none⟩ = some (.int .u8 (zz bs i)) := hb i (by omega)
  have hx := hby i
  have hcm0 := hcm
  unfold maxLen at hcm
  obtain ⟨m, hm⟩ : ∃ m, L - i = m + 1 := ⟨L - i - 1, by omega⟩
  obtain ⟨c, hc'⟩ : ∃ c, C - i = c + 1 := ⟨C - i - 1, by omega⟩
  have hmc : m ≤ c := by omega
  rw [hm, hc'] at hc
  generalize zz bs i = x at *
  have hx64 : wrap64 x = x := by unfold wrap64; omega
  have hne : ∀ u, (w.setCell ⟨R, 0, none⟩ u).cell? ⟨R, 0, none⟩ = some u := fun u => World.cell?_setCell_same _ _ _ hc
  go_enter Try.func69, Try.ntmps69
  go_wp2
  · go_ret
    refine ⟨rfl, ⟨⟨some ⟨b, o + i, none⟩, (hne _).trans (by rw [show L - (i + 1) = m by omega, show C - (i + 1) = c by omega, h]), fun h' => by omega⟩, by rw [World.frozen?_setCell]; exact hf, by omega, hlc, hcm0⟩, (Only.refl R w).setCell rfl _⟩
  · go_ret
    refine ⟨rfl, ⟨⟨some ⟨b, o + i + 1, none⟩, (hne _).trans (by rw [show L - (i + 1) = m by omega, show C - (i + 1) = c by omega]), fun h' => rfl⟩, by rw [World.frozen?_setCell]; exact hf, by omega, hlc, hcm0⟩, (Only.refl R w).setCell rfl _⟩
end Go.Proofs.Ytembppihfcclcaa

namespace Go.Proofs.Ytembppihfcclcaa
set_option linter.unusedVariables false
open Go.ChangeShapes Go.WideShapes Go.ChangeAt Go.RowKit

theorem ta_nil (w : World) : (Instr.typeAssert .nilIface 20 103 true).run Try.prog w = .ok (.tuple #[.agg #[], .bool false]) w := by
  simp [Instr.typeAssert, run_underlying Try.underlying103, go_sem]
theorem ta_wrong (w : World) : (Instr.typeAssert (.iface 103 (.agg #[])) 20 103 true).run Try.prog w = .ok (.tuple #[.agg #[], .bool true]) w := by
  simp [Instr.typeAssert, run_underlying Try.underlying103, go_sem]
theorem idle_get (p q : Addr) (w : World) :
    CallsD Try.prog 68 #[.pointer (some p), .pointer (some q)] .returning w fun e u' w' => e = .returned (.tuple #[]) ∧ u' = .returning ∧ Below w.heap.size w w' := by
  refine callsD_of_wpS Try.func68 rfl fun c₀ cs hu => ?_
  apply wpS_seq
  apply wpS_region
  simp [wpOpsS, go_sem, recoverD, hu, Try.ntmps68, Exit.thenS, ta_nil]
  apply wpS_seq
  apply wpS_region
  simp [wpOpsS, go_sem, Exit.thenS]
  refine wpS_cond (t := false) (by simp [Act.eval, Array.replicate]) ?_
  simp only [Bool.false_eq_true, if_false]
  refine wpS_of_wp (wp_skip ?_)
  have hb := (Below.refl w.heap.size w).alloc (Nat.le_refl _) (Obj.cells #[] 103)
  cases c₀
  simp_all [bodyPostS, results, Try.results68]
theorem there_block {w w' : World} {b o n : Nat} (h : w.there b o n) (k : w'.heap[b]? = w.heap[b]?) : w'.there b o n := fun j hj => by
  have h' := h j hj
  rw [World.cell?_of_block (a := ⟨b, o + j, none⟩) k, World.frozen?_of_block (a := ⟨b, o + j, none⟩) k]
  exact h'
theorem there_lt {w : World} {b o n : Nat} (h : w.there b o (n + 1)) : b < w.heap.size := by
  have h' := (h 0 (by omega)).1
  obtain ⟨v, hv⟩ := Option.isSome_iff_exists.1 h'
  exact block_of_cell hv
theorem store_ent_old (fr : Int) (a : Option Addr) (n c : Nat) (I : Nat → Int) (w : World) (b : Nat) (ht : w.there b 0 26) :
    (storeCells ⟨b, 0, none⟩ (entL fr (.slice a n c) I)).run Try.prog w = .ok () (w.setCells b 0 (entL fr (.slice a n c) I)) := by
  have := run_storeCells_cells (P := Try.prog) b 0 (entL fr (.slice a n c) I) 0 w (fun j hj => by rw [entL_len] at hj; simpa using (ht j hj).1) (fun j hj => by rw [entL_len] at hj; simpa using (ht j hj).2)
    (fun x hx => (Array.all_eq_true_iff_forall_mem.1 (entL_one fr a n c I)) x (by simpa using hx))
  simpa using this
theorem entAt_stored {w : World} {b : Nat} (h : w.there b 0 26) (fr : Int) (sv : Value) (I : Nat → Int) : EntAt (w.setCells b 0 (entL fr sv I)) b 0 fr sv I := by
  constructor
  intro k hk
  exact World.rangeAt_setCells_same w b 0 (entL fr sv I) (by rw [entL_len]; exact h) k _ (entL_get _ _ _ _ hk)
theorem there_setCells {w : World} {b : Nat} (h : w.there b 0 26) (fr : Int) (sv : Value) (I : Nat → Int) : (w.setCells b 0 (entL fr sv I)).there b 0 26 := fun j hj => by
  have h1 := (entAt_stored h fr sv I).cell j hj
  refine ⟨by rw [h1]; rfl, ?_⟩
  rw [World.frozen?_setCells]
  exact (h j hj).2
theorem below_setCells {B : Nat} {a : World} (b : Nat) (hb : B ≤ b) : ∀ (vs : List Value) (o : Nat) {w : World}, Below B a w → Below B a (w.setCells b o vs)
  | [], _, _, h => h
  | v :: r, o, w, h => by
    rw [World.setCells]
    exact below_setCells b hb r (o + 1) (h.setCell hb v)
theorem setCells_other (b k : Nat) (hk : k ≠ b) : ∀ (vs : List Value) (o : Nat) (w : World), (w.setCells b o vs).heap[k]? = w.heap[k]?
  | [], _, _ => rfl
  | v :: r, o, w => by
    rw [World.setCells, setCells_other b k hk r (o + 1)]
    exact Below.heap_setCell _ _ _ _ hk
theorem catch_get (t2 t3 B : Nat) (w : World) (h2 : w.there t2 0 26) (x : Int) (c3 : w.cell? ⟨t3, 0, none⟩ = some (.int .i64 x)) (f3 : w.frozen? ⟨t3, 0, none⟩ = false) (hne : t2 ≠ t3) (hB2 : B ≤ t2) (hB3 : B ≤ t3) :
    CallsD Try.prog 68 #[.pointer (some ⟨t2, 0, none⟩), .pointer (some ⟨t3, 0, none⟩)] (.panicking wrongP) w fun e u' w' => e = .returned (.tuple #[]) ∧ u' = .panicking [{ v := .iface 103 (.agg #[]), recovered := true }] ∧
      (EntAt w' t2 0 0 (.slice none 0 0) (fun _ => 0) ∧ w'.cell? ⟨t3, 0, none⟩ = some (.int .i64 2) ∧ Below B w w') := by
  refine callsD_of_wpS Try.func68 rfl fun c₀ cs hu => ?_
  unfold wrongP at hu
  apply wpS_seq
  apply wpS_region
  simp [wpOpsS, go_sem, recoverD, hu, Try.ntmps68, Exit.thenS, ta_wrong]
  apply wpS_seq
  apply wpS_region
  simp [wpOpsS, go_sem, Exit.thenS]
  refine wpS_cond (t := true) (by simp [Act.eval, Array.replicate]) ?_
  simp only [if_true]
  refine wpS_of_wp ?_
  have hz1 : w.heap.size ≤ (w.alloc (Obj.cells #[] 103)).heap.size := by simp
  have h2' : (w.alloc (Obj.cells #[] 103)).there t2 0 26 := there_block h2 (Below.heap_alloc w _ t2 (there_lt h2))
  have c3a : (w.alloc (Obj.cells #[] 103)).cell? ⟨t3, 0, none⟩ = some (.int .i64 x) := (World.cell?_of_block (Below.heap_alloc w _ t3 (block_of_cell c3))).trans c3
  have f3a : (w.alloc (Obj.cells #[] 103)).frozen? ⟨t3, 0, none⟩ = false := (World.frozen?_of_block (Below.heap_alloc w _ t3 (block_of_cell c3))).trans f3
  have hb1 := (Below.refl B w).alloc (Nat.le_trans hB2 (Nat.le_of_lt (there_lt h2))) (Obj.cells #[] 103)
  have hat := entAt_stored h2' 0 (.slice none 0 0) (fun _ => 0)
  have hbl := below_setCells t2 hB2 (entL 0 (.slice none 0 0) (fun _ => 0)) 0 hb1
  have hoth : ((w.alloc (Obj.cells #[] 103)).setCells t2 0 (entL 0 (.slice none 0 0) (fun _ => 0))).heap[t3]? = (w.alloc (Obj.cells #[] 103)).heap[t3]? := setCells_other t2 t3 (fun e => hne e.symm) _ _ _
  have H2 := Lib.hid h2'
  obtain ⟨w2, hw2⟩ : ∃ w2, w2 = (w.alloc (Obj.cells #[] 103)).setCells t2 0 (entL 0 (.slice none 0 0) (fun _ => 0)) := ⟨_, rfl⟩
  rw [← hw2] at hat hbl hoth
  have HW := Lib.hid hw2
  have c3b : w2.cell? ⟨t3, 0, none⟩ = some (.int .i64 x) := (World.cell?_of_block hoth).trans c3a
  have f3b : w2.frozen? ⟨t3, 0, none⟩ = false := (World.frozen?_of_block hoth).trans f3a
  have HAT := Lib.hid (hat.block (w' := w2.setCell ⟨t3, 0, none⟩ (.int .i64 2)) (Below.heap_setCell _ _ _ _ (by show t2 ≠ t3; exact hne)))
  have HC3 := Lib.hid (World.cell?_setCell_same w2 ⟨t3, 0, none⟩ (.int .i64 2) c3b)
  have HBL := Lib.hid (hbl.setCell (p := ⟨t3, 0, none⟩) hB3 (.int .i64 2))
  clear hat hbl hoth h2 h2' c3 f3 c3a f3a hb1 hz1 hw2
  go_wp2_with (refine wpList_store_mid rfl 37 _ _ rfl t2 0 (entL 0 (.slice none 0 0) (fun _ => 0)).toArray rfl rfl (by rw [List.size_toArray, entL_len]; exact H2.out) (by rw [List.size_toArray]; exact size_ent _ _ _) (entL_one 0 none 0 0 _) ?_; rw [show (entL 0 (.slice none 0 0) (fun _ => 0)).toArray.toList = entL 0 (.slice none 0 0) (fun _ => 0) from rfl, ← HW.out])
  simp [bodyPostS, results, Try.results68]
  exact ⟨HAT.out, HC3.out, HBL.out⟩
end Go.Proofs.Ytembppihfcclcaa
