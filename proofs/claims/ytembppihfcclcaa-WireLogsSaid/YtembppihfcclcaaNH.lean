/-
  Wire: rows of entries without events; append of many.
-/
import Derived.Test.YtembppihfcclcaaNA
import Derived.Deep.RegionHeld
namespace Go.Proofs.Ytembppihfcclcaa
set_option linter.unusedVariables false
open Go.ChangeShapes Go.WideShapes Go.ChangeAt Go.RowKit

set_option linter.unusedSimpArgs false
/-- A row of entries without events, of the call's own. -/
structure ZL (w : World) (B : Nat) (v : Value) (n : Nat) (D : Nat → Ent) : Prop where
  ex : ∃ S : Nat → Value, w.ownsRow B 37 26 v n (enL D S n) ∧ ∀ i, i < n → (D i).n = 0 ∧ ∃ a c, S i = .slice a 0 c ∧ c ≤ maxLen
theorem evs_zero {w : World} {a : Option Addr} {c : Nat} {E : Nat → Nat → Int} (hc : c ≤ maxLen) : EvsV w (.slice a 0 c) 0 E := ⟨a, c, rfl, Nat.zero_le _, hc, fun h => absurd h (by omega)⟩
theorem ZL.ents {w : World} {B n : Nat} {v : Value} {D : Nat → Ent} (h : ZL w B v n D) : EntsV w v n D := by
  obtain ⟨S, h1, h2⟩ := h.ex
  rcases h1.2 with ⟨rfl, rfl⟩ | ⟨g, cap, cur, rfl, hb, hg, h3, h4, -⟩
  · exact ⟨none, 0, rfl, Nat.le_refl _, Nat.zero_le _, fun h => absurd h (by omega)⟩
  · refine ⟨_, cap, rfl, h3, h4, fun _ => ⟨g, 0, rfl, (Array.getElem?_eq_some_iff.1 hg).1, fun i hi => ⟨S i, ⟨fun k hk => ?_⟩, ?_⟩⟩⟩
    · have := World.ownsRow.cells h1 (g := g) rfl (i * 26 + k) _ (enL_get D S n i k hi hk)
      rw [Go.WideShapes.add_plain] at this
      rw [show 0 + i * 26 + k = 0 + (i * 26 + k) by omega]
      exact this
    · obtain ⟨e, a, c, e2, hc⟩ := h2 i hi
      rw [e, e2]
      exact evs_zero hc
theorem ZL.grownBy {w w' : World} {B n : Nat} {v : Value} {D : Nat → Ent} {row : Option Nat} (h : ZL w B v n D) (hg : w.grownBy w' row) (hne : v.ownBlock = none ∨ v.ownBlock ≠ row) : ZL w' B v n D := by
  obtain ⟨S, h1, h2⟩ := h.ex
  exact ⟨⟨S, World.ownsRow.kept h1 hg hne, h2⟩⟩
theorem ZL.below {w w' : World} {B B' n : Nat} {v : Value} {D : Nat → Ent} (h : ZL w B v n D) (hb : Below B' w w') (hs : w.heap.size ≤ B') : ZL w' B v n D := by
  refine h.grownBy (row := none) ⟨hb.os, hb.tape, hb.output, hb.size, fun k hk _ => hb.block k (by omega)⟩ ?_
  cases hv : v.ownBlock <;> simp
theorem ZL.other {w w' : World} {B R n : Nat} {v : Value} {D : Nat → Ent} (h : ZL w B v n D) (ho : Only R w w') (hR : R < B) : ZL w' B v n D := by
  obtain ⟨S, h1, -⟩ := h.ex
  refine h.grownBy (row := some R) ⟨ho.os, ho.tape, ho.output, Nat.le_of_eq ho.size.symm, fun k _ hk => ho.block k (fun e => hk (by rw [e]))⟩ ?_
  cases hv : v.ownBlock with
  | none => exact Or.inl rfl
  | some g => exact Or.inr (fun e => by have := (World.ownsRow.lt h1 g hv).1; injection e with e; omega)
theorem zl_made {w : World} (D : Nat → Ent) : ZL (w.alloc (Obj.cells #[] 37)) w.heap.size (.slice (some ⟨w.heap.size, 0, none⟩) 0 0) 0 D :=
  ⟨⟨fun _ => .slice none 0 0, World.ownsRow_made w #[] 0 (Nat.le_refl _) (Nat.zero_le _) rfl, fun i hi => absurd hi (Nat.not_lt_zero _)⟩⟩
theorem OwnL.zl {w : World} {B n : Nat} {v : Value} {D : Nat → Ent} (h : OwnL w B v n D) (hz : ∀ i, i < n → (D i).n = 0) : ZL w B v n D := by
  obtain ⟨S, h1, h2⟩ := h.ex
  refine ⟨⟨S, h1, fun i hi => ⟨hz i hi, ?_⟩⟩⟩
  obtain ⟨a, c, e, -, h3, -⟩ := (h2 i hi).1.evs
  rw [hz i hi] at e
  exact ⟨a, c, e, h3⟩
/-- Entries without events that lie from an address on. -/
structure Src (w : World) (ad : Addr) (n : Nat) (D : Nat → Ent) : Prop where
  ex : ∃ S : Nat → Value, (∀ j u, (enL D S n)[j]? = some u → w.cell? (ad.add j) = some u) ∧ ∀ i, i < n → (D i).n = 0 ∧ ∃ a c, S i = .slice a 0 c ∧ c ≤ maxLen
theorem src_zero (w : World) (ad : Addr) (D : Nat → Ent) : Src w ad 0 D := ⟨⟨fun _ => .slice none 0 0, fun j u h => by simp [enL] at h, fun i hi => absurd hi (Nat.not_lt_zero _)⟩⟩
theorem ZL.src {w : World} {B n g cap : Nat} {D : Nat → Ent} (h : ZL w B (.slice (some ⟨g, 0, none⟩) n cap) n D) (lo len : Nat) (hl : lo + len ≤ n) : Src w ⟨g, lo * 26, none⟩ len (fun j => D (lo + j)) := by
  obtain ⟨S, h1, h2⟩ := h.ex
  refine ⟨⟨fun j => S (lo + j), fun q u hq => ?_, fun i hi => h2 (lo + i) (by omega)⟩⟩
  have hql : q < len * 26 := by
    have := (List.getElem?_eq_some_iff.1 hq).1
    rwa [enL_len] at this
  have e : q = q / 26 * 26 + q % 26 := by omega
  have hi : q / 26 < len := by omega
  rw [e, enL_get _ _ _ _ _ hi (Nat.mod_lt _ (by omega))] at hq
  have h3 := enL_get D S n (lo + q / 26) (q % 26) (by omega) (Nat.mod_lt _ (by omega))
  have h4 := World.ownsRow.cells h1 (g := g) rfl ((lo + q / 26) * 26 + q % 26) _ h3
  rw [Go.WideShapes.add_plain] at h4 ⊢
  rw [show lo * 26 + q = 0 + ((lo + q / 26) * 26 + q % 26) by omega, h4]
  exact hq
theorem Src.block {w w' : World} {g o : Nat} {n : Nat} {D : Nat → Ent} (h : Src w ⟨g, o, none⟩ n D) (hk : w'.heap[g]? = w.heap[g]?) : Src w' ⟨g, o, none⟩ n D := by
  obtain ⟨S, h1, h2⟩ := h.ex
  refine ⟨⟨S, fun j u hj => ?_, h2⟩⟩
  have := h1 j u hj
  rw [Go.WideShapes.add_plain] at this ⊢
  exact (World.cell?_of_block (a := ⟨g, o + j, none⟩) hk).trans this
/-- One row of entries behind another. -/
def catD (D : Nat → Ent) (m : Nat) (D2 : Nat → Ent) : Nat → Ent := fun j => if j < m then D j else D2 (j - m)
theorem enL_cat (D : Nat → Ent) (S : Nat → Value) (m : Nat) (D2 : Nat → Ent) (S2 : Nat → Value) : ∀ n, enL (catD D m D2) (fun j => if j < m then S j else S2 (j - m)) (m + n) = enL D S m ++ enL D2 S2 n
  | 0 => by
    rw [Nat.add_zero]
    show _ = _ ++ []
    rw [List.append_nil]
    have : ∀ q, q ≤ m → enL (catD D m D2) (fun j => if j < m then S j else S2 (j - m)) q = enL D S q := by
      intro q
      induction q with
      | zero => intro _; rfl
      | succ q ih =>
        intro hq
        unfold enL
        rw [ih (by omega)]
        unfold catD
        rw [if_pos (by omega), if_pos (by omega)]
    exact this m (Nat.le_refl _)
  | n + 1 => by
    show enL _ _ (m + n) ++ entL (catD D m D2 (m + n)).fr (if m + n < m then S (m + n) else S2 (m + n - m)) (catD D m D2 (m + n)).I = enL D S m ++ (enL D2 S2 n ++ entL (D2 n).fr (S2 n) (D2 n).I)
    rw [enL_cat D S m D2 S2 n, List.append_assoc]
    unfold catD
    rw [if_neg (by omega), if_neg (by omega), show m + n - m = n by omega]
theorem enL_one {D : Nat → Ent} {S : Nat → Value} : ∀ {n}, (∀ i, i < n → ∃ a c, S i = .slice a 0 c) → ∀ u ∈ enL D S n, u.oneCell' = true
  | 0, _, u, hu => by cases hu
  | n + 1, h, u, hu => by
    unfold enL at hu
    rcases List.mem_append.1 hu with hu | hu
    · exact enL_one (fun i hi => h i (by omega)) u hu
    · obtain ⟨a, c, e⟩ := h n (by omega)
      rw [e] at hu
      exact (Array.all_eq_true_iff_forall_mem.1 (entL_one (D n).fr a 0 c (D n).I)) u (by simpa using hu)
/-- append of many entries to a row of the call's own, in a region that draws its order. -/
theorem step_app_many {ops : Array Oper} {op : Oper} {a : Act} {w : World} {K : Act → World → Prop} {Q : Exit → Act → World → Prop} {E' : Prop} (hg : op.guard = none)
    (s x : Operand) (ho : op.op = Op.call { callee := Callee.builtin Builtin.append, args := #[s, x], argTypes := #[27, 27] })
    (B : Nat) (v : Value) (m : Nat) (D : Nat → Ent) (hown : ZL w B v m D) (hvn : ∃ g cap, v = .slice (some ⟨g, 0, none⟩) m cap) (hm : m ≤ 1000) (hs : a.eval s = v) (hB : B ≤ w.heap.size) (ad : Addr) (n c : Nat) (D2 : Nat → Ent) (hsrc : Src w ad n D2) (hn : n ≤ 1000) (hx : a.eval x = .slice (some ad) n c)
    (h : ∀ v' w', Hid (ZL w' B v' (m + n) (catD D m D2)) → Hid (w.grownBy w' v.ownBlock) → Hid (∃ g cap, v' = .slice (some ⟨g, 0, none⟩) (m + n) cap) → K (a.put op.dst v') w') :
    if Region.wanted op (yielded ops a.tmps) = true then Oper.wp Try.prog op a w K Q else E' := by
  have hwn : Region.wanted op (yielded ops a.tmps) = true := by simp [Region.wanted, hg]
  rw [if_pos hwn]
  obtain ⟨S, hrow, hev⟩ := hown.ex
  obtain ⟨S2, hnews, hev2⟩ := hsrc.ex
  obtain ⟨i0, hi, hz0, hz1, hz2⟩ := info_parts (P := Try.prog) (e := 37) (z := .agg #[.int .i64 0, .slice none 0 0, .int .i8 0, .int .i8 0, .int .u8 0, .int .i8 0, .int .i8 0, .int .u8 0, .int .i8 0, .int .i8 0, .int .u8 0, .int .i8 0, .int .i8 0, .int .u8 0, .int .i8 0, .int .i8 0, .int .u8 0, .int .i8 0, .int .i8 0, .int .u8 0, .int .i8 0, .int .i8 0, .int .u8 0, .int .i8 0, .int .i8 0, .int .u8 0]) (size := 26) (bytes := 56) (by kernel_rfl)
  obtain ⟨v', w', hr, h2, h3, h4, h5⟩ := run_append_own_at (P := Try.prog) w B 27 op.type 37 i0 (.agg #[.int .i64 0, .slice none 0 0, .int .i8 0, .int .i8 0, .int .u8 0, .int .i8 0, .int .i8 0, .int .u8 0, .int .i8 0, .int .i8 0, .int .u8 0, .int .i8 0, .int .i8 0, .int .u8 0, .int .i8 0, .int .i8 0, .int .u8 0, .int .i8 0, .int .i8 0, .int .u8 0, .int .i8 0, .int .i8 0, .int .u8 0, .int .i8 0, .int .i8 0, .int .u8 0]) 26 56 Try.underlying27 hi hz0 hz1 hz2 rfl (by decide) v m (enL D S m) hrow ad n c (enL D2 S2 n) (by rw [enL_len]) hnews (enL_one (fun i hi => by obtain ⟨-, a, c, e, -⟩ := hev2 i hi; exact ⟨a, c, e⟩)) (by unfold maxLen; omega) (by omega) hB
  unfold Oper.wp execOp
  simp only [ho, resolve, invoke, builtin, Sem.run_bind, Sem.run_pure, Result.andThen_ok, List.map_toArray, List.map_cons, List.map_nil, hs, hx, hr]
  refine h v' w' (Lib.hid ⟨⟨fun j => if j < m then S j else S2 (j - m), by rw [enL_cat]; exact h2, fun i hi' => ?_⟩⟩) (Lib.hid h3) (Lib.hid ?_)
  · unfold catD
    by_cases hlt : i < m
    · simp only [if_pos hlt]; exact hev i hlt
    · simp only [if_neg hlt]; exact hev2 (i - m) (by omega)
  · rcases h2.2 with ⟨e, -⟩ | ⟨g, cap, cur, hv, -⟩
    · obtain ⟨g, cap, hv⟩ := hvn
      have := (h4.1 e).1
      rw [hv] at this
      cases this
    · exact ⟨g, cap, hv⟩
theorem ZL.belowG {w w' : World} {B n : Nat} {v : Value} {D : Nat → Ent} (h : ZL w B v n D) (hg : w.grownBy w' v.ownBlock) (hB : B ≤ w.heap.size) : Below B w w' := by
  obtain ⟨S, hrow, -⟩ := h.ex
  exact ⟨hg.os, hg.tape, hg.output, hg.size, fun k hk => hg.block k (by omega) (fun e => by have := (World.ownsRow.lt hrow k e.symm).1; omega)⟩
theorem zl_first {w : World} {B n : Nat} {v : Value} {D D2 : Nat → Ent} (h : ZL w B v (0 + n) (catD D 0 D2)) : ZL w B v n D2 := by
  have e : catD D 0 D2 = D2 := by
    funext j
    unfold catD
    rw [if_neg (Nat.not_lt_zero _)]
    rfl
  rwa [Nat.zero_add, e] at h
theorem MsgAt.setL {w : World} {b : Nat} {F : Nat → Int} {iv lv dv : Value} (h : MsgAt w b F iv lv dv) (v : Value) : MsgAt (w.setCell ⟨b, 14, none⟩ v) b F iv v dv := by
  refine h.set 14 (fun j hj => ?_)
  unfold msgF
  by_cases h13 : j = 13
  · rw [if_pos h13, if_neg (by omega), if_pos h13]
  · by_cases h14 : j = 14
    · rw [if_neg h13, if_pos h14, if_pos h14]
    · rw [if_neg h13, if_neg h14, if_neg h14, if_neg h13, if_neg h14]
/-! The logs of WireLogs, in plain words. -/
def lF (f : Int) : Nat → Int := fun k => if k = 0 then 5 else if k = 7 then f else 0
def lM (f : Int) (n : Nat) (D : Nat → Ent) : Msg := ⟨lF f, 0, fun _ => 0, n, D, []⟩
theorem logOk_iff (fr : Int) (D : Nat → Ent) : ∀ n, logOk fr D n = true ↔ ∀ i, i < n → mayD (D i) = true ∧ (D i).fr = fr + i := by
  intro n
  constructor
  · exact logOk_get n
  · intro h
    induction n with
    | zero => rfl
    | succ n ih =>
      unfold logOk
      rw [ih (fun i hi => h i (by omega)), (h n (by omega)).1, Bool.true_and, Bool.true_and, beq_iff_eq]
      exact (h n (by omega)).2
theorem lM_may (f : Int) (hf : 0 ≤ f ∧ f ≤ 1048576) (n : Nat) (D : Nat → Ent) : mayM (lM f n D) = (decide (1 ≤ n ∧ n ≤ 16) && logOk f D n) := by
  have hk : ∀ j, hasB 5 j = hasB 5 j := fun _ => rfl
  have e0 : partsN 5 = 516 := by kernel_rfl
  have b0 : hasB 5 0 = false := by kernel_rfl
  have b1 : hasB 5 1 = false := by kernel_rfl
  have b2 : hasB 5 2 = true := by kernel_rfl
  have b3 : hasB 5 3 = false := by kernel_rfl
  have b4 : hasB 5 4 = false := by kernel_rfl
  have b5 : hasB 5 5 = false := by kernel_rfl
  have b8 : hasB 5 8 = false := by kernel_rfl
  have b9 : hasB 5 9 = true := by kernel_rfl
  have b10 : hasB 5 10 = false := by kernel_rfl
  unfold mayM
  show (decide (0 ≤ partsN 5) && (decide ((0 : Int) ≤ 0) && (decide ((0 : Int) < 12) && (inB (hasB 5 0) 0 0 7 && (inB (hasB 5 1) 0 1 60000 && (inB (hasB 5 2) f 0 1048576 && (inB (hasB 5 3) 0 0 9 &&
    (inB (hasB 5 4) 0 0 65535 && (inB (hasB 5 5) 0 (0 + 1) 65535 && ((hasB 5 6 || (0 : Int) == 0) && ((hasB 5 7 || (0 : Int) == 0) && (inB (hasB 5 8) ((0 : Nat) : Int) 1 16 && (inB (hasB 5 9) (n : Int) 1 16 && (inB (hasB 5 10) (([] : List Int).length : Int) 1 64 &&
    (logOk f D n && inpAll (fun _ => 0) 0))))))))))))))) = _
  rw [e0, b0, b1, b2, b3, b4, b5, b8, b9, b10]
  have h1 : inB true f 0 1048576 = true := by unfold inB; simp; exact hf
  have h2 : inB true (n : Int) 1 16 = decide (1 ≤ n ∧ n ≤ 16) := by
    unfold inB
    simp only [if_true]
    rw [Bool.eq_iff_iff]
    simp only [Bool.and_eq_true, decide_eq_true_eq]
    omega
  have h3 : inB false (0 : Int) 0 7 = true ∧ inB false (0 : Int) 1 60000 = true ∧ inB false (0 : Int) 0 9 = true ∧ inB false (0 : Int) 0 65535 = true ∧ inB false (0 : Int) (0 + 1) 65535 = true ∧ inB false ((0 : Nat) : Int) 1 16 = true ∧ inB false (([] : List Int).length : Int) 1 64 = true := ⟨rfl, rfl, rfl, rfl, rfl, rfl, rfl⟩
  rw [h1, h2, h3.1, h3.2.1, h3.2.2.1, h3.2.2.2.1, h3.2.2.2.2.1, h3.2.2.2.2.2.1, h3.2.2.2.2.2.2]
  have h4 : inpAll (fun _ => 0) 0 = true := rfl
  rw [h4]
  simp
theorem fE_may (f : Int) (i : Nat) (h : 0 ≤ f + i ∧ f + i < 1048576) : mayD (fE f i) = true := by
  show mayE (f + i) 0 (fun _ _ => 0) (fun _ => 0) = true
  unfold mayE
  rw [decide_eq_true h.1, decide_eq_true h.2]
  rfl
/-- The whole log may be; with entry i left out only if that is the last of more than one; with entry i twice never. -/
theorem logs_may (f : Int) (n i : Nat) (hf : 0 ≤ f ∧ f < 1048560) (hn : 1 ≤ n ∧ n ≤ 16) (hi : i < n) :
    mayM (lM f n (fE f)) = true ∧ mayM (lM f (i + (n - (i + 1))) (catD (fun j => fE f (0 + j)) i (fun j => fE f (i + 1 + j)))) = (decide (i = n - 1) && decide (1 < n)) ∧ mayM (lM f (i + 1 + (n - i)) (catD (fun j => fE f (0 + j)) (i + 1) (fun j => fE f (i + j)))) = false := by
  have hmay : ∀ j : Nat, j < n → mayD (fE f j) = true := fun j hj => fE_may f j (by omega)
  refine ⟨?_, ?_, ?_⟩
  · rw [lM_may f (by omega), decide_eq_true hn, Bool.true_and, logOk_iff]
    exact fun j hj => ⟨hmay j hj, rfl⟩
  · rw [lM_may f (by omega), Bool.eq_iff_iff, Bool.and_eq_true, Bool.and_eq_true, decide_eq_true_eq, decide_eq_true_eq, decide_eq_true_eq, logOk_iff]
    constructor
    · rintro ⟨h1, h2⟩
      refine ⟨?_, by omega⟩
      by_cases e : i = n - 1
      · exact e
      · exfalso
        have h3 := (h2 i (by omega)).2
        unfold catD at h3
        rw [if_neg (by omega)] at h3
        have h4 : f + ((i + 1 + (i - i) : Nat) : Int) = f + i := h3
        omega
    · rintro ⟨h1, h2⟩
      refine ⟨by omega, fun j hj => ?_⟩
      unfold catD
      rw [if_pos (by omega)]
      show mayD (fE f (0 + j)) = true ∧ (fE f (0 + j)).fr = f + j
      rw [Nat.zero_add]
      exact ⟨hmay j (by omega), rfl⟩
  · rw [lM_may f (by omega)]
    rcases hb : logOk f (catD (fun j => fE f (0 + j)) (i + 1) (fun j => fE f (i + j))) (i + 1 + (n - i)) with _ | _
    · rw [Bool.and_false]
    · exfalso
      have h3 := ((logOk_iff _ _ _).1 hb (i + 1) (by omega)).2
      unfold catD at h3
      rw [if_neg (by omega)] at h3
      have h4 : f + ((i + (i + 1 - (i + 1)) : Nat) : Int) = f + ((i + 1 : Nat) : Int) := h3
      omega
end Go.Proofs.Ytembppihfcclcaa
