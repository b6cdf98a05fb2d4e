/-
  Wire: the reference's read, of any letter. Wire: rows of tests, walked block by block.
-/
import Derived.Test.YtembppihfcclcaaVP
import Derived.Test.YtembppihfcclcaaG25x
import Derived.Test.YtembppihfcclcaaVK
import Derived.Test.YtembppihfcclcaaG15x
namespace Go.Proofs.Ytembppihfcclcaa
set_option linter.unusedVariables false
open Go.ChangeShapes Go.WideShapes Go.ChangeAt Go.RowKit

set_option linter.unusedSimpArgs false
/-- The next part to be read, behind n letters. -/
def nx (K : Int) (n : Nat) : Nat := if n < (pkL K).length then jL ((pkL K).getD n 0) else 11
theorem nx_end (K : Int) : nx K (pkL K).length = 11 := by unfold nx; rw [if_neg (Nat.lt_irrefl _)]
theorem nx_le (K : Int) (n : Nat) : nx K n ≤ 11 := by
  unfold nx
  split
  · rename_i h
    exact Nat.le_of_lt (pkL_ltr K n h).1
  · exact Nat.le_refl _
theorem nx_zero (K : Int) (j : Nat) (hj : j < nx K 0) : hasB K j = false := by
  have h11 : j < 11 := Nat.lt_of_lt_of_le hj (nx_le K 0)
  rw [← wB_has K j h11]
  have h := pkL_all (fun K => (List.range 11).all (fun j => !decide (j < nx K 0) || !wB K (ltr j))) (fun k hk => by
    rw [List.all_eq_true]
    intro j _
    simp [wB, hk]) (by kernel_rfl) K
  have h2 := List.all_eq_true.1 h j (List.mem_range.2 h11)
  rw [decide_eq_true hj] at h2
  simpa using h2
theorem nx_ok (K : Int) (n : Nat) (hn : n < (pkL K).length) : nx K n < 11 ∧ hasB K (nx K n) = true ∧ nx K n < nx K (n + 1) ∧ ltr (nx K n) = (pkL K).getD n 0 ∧ ∀ j, nx K n < j → j < nx K (n + 1) → hasB K j = false := by
  have h := pkL_all (fun K => (List.range (pkL K).length).all (fun n => wB K (ltr (nx K n)) && decide (nx K n < nx K (n + 1)) && (List.range 11).all (fun j => !decide (nx K n < j) || !decide (j < nx K (n + 1)) || !wB K (ltr j)))) (fun k hk => by rw [hk]; rfl) (by kernel_rfl) K
  have h2 := List.all_eq_true.1 h n (List.mem_range.2 hn)
  simp only [Bool.and_eq_true, decide_eq_true_eq] at h2
  obtain ⟨⟨h3, h4⟩, h5⟩ := h2
  have e : nx K n = jL ((pkL K).getD n 0) := by unfold nx; rw [if_pos hn]
  have hl := pkL_ltr K n hn
  rw [← e] at hl
  refine ⟨hl.1, by rw [← wB_has K _ hl.1]; exact h3, h4, hl.2, fun j h6 h7 => ?_⟩
  have h11 : j < 11 := Nat.lt_of_lt_of_le h7 (nx_le K _)
  rw [← wB_has K j h11]
  have h8 := List.all_eq_true.1 h5 j (List.mem_range.2 h11)
  rw [decide_eq_true h6, decide_eq_true h7] at h8
  simpa using h8
/-- Where the j-th part begins. -/
def gSt (bs : List Int) (j : Nat) : Nat := if j ≤ 8 then gPs bs j else if j = 9 then gQl bs else if j = 10 then gQd bs else gEnd bs
theorem gSt_step {bs : List Int} {j : Nat} (hj : j < 11) (h : hasB (gK bs) j = false) : gSt bs (j + 1) = gSt bs j := by
  by_cases h8 : j < 8
  · unfold gSt
    rw [if_pos (by omega), if_pos (by omega)]
    show gPs bs j + (if hasB (gK bs) j then wdt j else 0) = _
    rw [h]
    rfl
  · rcases (by omega : j = 8 ∨ j = 9 ∨ j = 10) with rfl | rfl | rfl
    · show gQl bs = gPs bs 8
      unfold gQl gQi gNi
      rw [h]
      rfl
    · show gQd bs = gQl bs
      have e0 : gNl bs = 0 := by unfold gNl; rw [h]; rfl
      unfold gQd
      rw [e0]
      unfold gQe
      rw [h]
      rfl
    · show gEnd bs = gQd bs
      unfold gEnd gQt gNd
      rw [h]
      rfl
theorem gSt_skip {bs : List Int} (a : Nat) : ∀ d, a + d ≤ 11 → (∀ j, a ≤ j → j < a + d → hasB (gK bs) j = false) → gSt bs (a + d) = gSt bs a
  | 0, _, _ => rfl
  | d + 1, h, hh => by
    rw [← Nat.add_assoc, gSt_step (by omega) (hh (a + d) (by omega) (by omega))]
    exact gSt_skip a d (by omega) (fun j h1 h2 => hh j h1 (by omega))
theorem gSt_to {bs : List Int} {a b : Nat} (h : a ≤ b) (hb : b ≤ 11) (hh : ∀ j, a ≤ j → j < b → hasB (gK bs) j = false) : gSt bs b = gSt bs a := by
  have := gSt_skip (bs := bs) a (b - a) (by omega) (fun j h1 h2 => hh j h1 (by omega))
  rwa [show a + (b - a) = b by omega] at this
/-- Where Get stands behind n letters of the message's kind K. -/
structure SM (bs : List Int) (K : Int) (n : Nat) (F : Nat → Int) (iv lv dv : Value) (l : List Int) (bad : Bool) (B : Nat) (w : World) : Prop where
  fi : ∃ a m c, iv = .slice a m c
  fl : ∃ a m c, lv = .slice a m c
  fd : ∃ a m c, dv = .slice a m c
  k : F 0 = K
  t : TrkM bs (gSt bs (nx K n)) l bad
  zi : nx K n ≤ 8 → iv = .slice none 0 0
  zl : nx K n ≤ 9 → lv = .slice none 0 0
  gk : bad = false → K = gK bs
  gh : bad = false → ∀ k, k < 5 → F k = gF bs k
  gn : bad = false → ∀ j, j < 8 → F (5 + j) = if j < nx K n then gV bs j else 0
  gi : bad = false → OwnI w B iv (if 8 < nx K n then gNi bs else 0) (gIn bs)
  gl : bad = false → OwnL w B lv (if 9 < nx K n then gNl bs else 0) (gD bs)
  go : bad = false → 9 < nx K n → ∀ i, i < gNl bs → OkG (eBy bs (gQe bs i))
  gd : bad = false → BytesN w B dv (if 10 < nx K n then gDt bs else [])
theorem SM.rd {bs : List Int} {K : Int} {n : Nat} {F : Nat → Int} {iv lv dv : Value} {l : List Int} {bad : Bool} {B T : Nat} {w w' : World} (h : SM bs K n F iv lv dv l bad B w) (hd : RdW T w w') (hT : T < B) : SM bs K n F iv lv dv l bad B w' :=
  ⟨h.fi, h.fl, h.fd, h.k, h.t, h.zi, h.zl, h.gk, h.gh, h.gn, fun e => (h.gi e).rdW hd hT, fun e => (h.gl e).rdW hd hT, h.go, fun e => (h.gd e).rdW hd hT⟩
theorem uW_ne (F : Nat → Int) (k : Nat) (v : Int) (j : Nat) (h : j ≠ k) : uW F k v j = F j := by unfold uW; rw [if_neg h]
theorem uW_eq (F : Nat → Int) (k : Nat) (v : Int) : uW F k v k = v := by unfold uW; rw [if_pos rfl]
theorem read_any (bs : List Int) (hby : ByteL bs) (K : Int) (n : Nat) (hn : n < (pkL K).length) (R B : Nat) (F : Nat → Int) (iv lv dv : Value) (l : List Int) (bad : Bool) (w : World) (hr : RG w R l bad) (hRB : R < B) (hB : B ≤ w.heap.size) (h : SM bs K n F iv lv dv l bad B w) :
    Calls Try.prog 47 #[.agg (msgL F iv lv dv).toArray, .pointer (some ⟨R, 0, none⟩), .int .u8 (((pkL K).getD n 0 : Nat) : Int)] w fun e w' => ∃ F' iv' lv' dv' l' bad', e = .returned (.agg (msgL F' iv' lv' dv').toArray) ∧ RG w' R l' bad' ∧ SM bs K (n + 1) F' iv' lv' dv' l' bad' B w' ∧ Rd R w w' := by
  obtain ⟨h11, hhas, hlt, hltr, hno⟩ := nx_ok K n hn
  obtain ⟨fi, fl, fd, hk, ht, zi, zl, gk, gh, gn, gi, gl, go, gd⟩ := h
  have hle := nx_le K (n + 1)
  rw [← hltr]
  have hskip : K = gK bs → gSt bs (nx K (n + 1)) = gSt bs (nx K n + 1) := fun e => gSt_to (by omega) hle (fun j h1 h2 => by rw [← e]; exact hno j (by omega) h2)
  have hasG : bad = false → hasB (gK bs) (nx K n) = true := fun e => by rw [← gk e]; exact hhas
  generalize hj : nx K n = j at *
  generalize hj' : nx K (n + 1) = j' at *
  obtain ⟨ia, im, ic, rfl⟩ := fi
  obtain ⟨la, lm, lc, rfl⟩ := fl
  obtain ⟨da, dm, dc, rfl⟩ := fd
  -- what is not there says nothing
  have hv0 : K = gK bs → ∀ q, j < q → q < j' → gV bs q = 0 := fun e q h1 h2 => by unfold gV; rw [← e, hno q h1 h2]; rfl
  have hi0 : K = gK bs → j < 8 → 8 < j' → gNi bs = 0 := fun e h1 h2 => by unfold gNi; rw [← e, hno 8 h1 h2]; rfl
  have hl0 : K = gK bs → j < 9 → 9 < j' → gNl bs = 0 := fun e h1 h2 => by unfold gNl; rw [← e, hno 9 h1 h2]; rfl
  have hd0 : K = gK bs → j < 10 → 10 < j' → gDt bs = [] := fun e h1 h2 => by
    have : gNd bs = 0 := by unfold gNd; rw [← e, hno 10 h1 h2]; rfl
    unfold gDt
    rw [this]
    rfl
  have hnum : bad = false → ∀ q, q < 8 → q ≠ j → F (5 + q) = if q < j' then gV bs q else 0 := fun e q h1 h2 => by
    rw [gn e q h1]
    by_cases h3 : q < j
    · rw [if_pos h3, if_pos (by omega)]
    · rw [if_neg h3]
      by_cases h4 : q < j'
      · rw [if_pos h4, hv0 (gk e) q (by omega) h4]
      · rw [if_neg h4]
  have hti : ∀ {w' : World}, bad = false → j ≠ 8 → Rd R w w' → OwnI w' B (.slice ia im ic) (if 8 < j' then gNi bs else 0) (gIn bs) := fun e h1 hd => by
    have h2 := (gi e).rdW hd.w hRB
    by_cases h3 : 8 < j
    · rw [if_pos h3] at h2; rw [if_pos (by omega)]; exact h2
    · rw [if_neg h3] at h2
      by_cases h4 : 8 < j'
      · rw [if_pos h4, hi0 (gk e) (by omega) h4]; exact h2
      · rw [if_neg h4]; exact h2
  have htl : ∀ {w' : World}, bad = false → j ≠ 9 → Rd R w w' → OwnL w' B (.slice la lm lc) (if 9 < j' then gNl bs else 0) (gD bs) := fun e h1 hd => by
    have h2 := (gl e).rdW hd.w hRB
    by_cases h3 : 9 < j
    · rw [if_pos h3] at h2; rw [if_pos (by omega)]; exact h2
    · rw [if_neg h3] at h2
      by_cases h4 : 9 < j'
      · rw [if_pos h4, hl0 (gk e) (by omega) h4]; exact h2
      · rw [if_neg h4]; exact h2
  have htd : ∀ {w' : World}, bad = false → j ≠ 10 → Rd R w w' → BytesN w' B (.slice da dm dc) (if 10 < j' then gDt bs else []) := fun e h1 hd => by
    have h2 := (gd e).rdW hd.w hRB
    rw [if_neg (by omega)] at h2
    by_cases h4 : 10 < j'
    · rw [if_pos h4, hd0 (gk e) (by omega) h4]; exact h2
    · rw [if_neg h4]; exact h2
  have hgo : bad = false → j ≠ 9 → 9 < j' → ∀ i, i < gNl bs → OkG (eBy bs (gQe bs i)) := fun e h1 h2 i hi => by
    by_cases h3 : 9 < j
    · exact go e h3 i hi
    · rw [hl0 (gk e) (by omega) h2] at hi; omega
  have htr : ∀ {l' : List Int} {b' : Bool} {p : Nat}, TrkM bs p l' b' → (b' = false → bad = false) → p = gSt bs (j + 1) → TrkM bs (gSt bs j') l' b' := fun {l' b' p} h1 h2 h3 => by
    cases b' with
    | true => exact h1.any _
    | false => rw [hskip (gk (h2 rfl)), ← h3]; exact h1
  rcases (by omega : j < 8 ∨ j = 8 ∨ j = 9 ∨ j = 10) with h8 | rfl | rfl | rfl
  · have es : gSt bs j = gPs bs j := by unfold gSt; rw [if_pos (by omega)]
    rw [es] at ht
    have ep : bad = false → gPs bs (j + 1) = gPs bs j + wdt j := fun e => by
      show gPs bs j + (if hasB (gK bs) j then wdt j else 0) = _
      rw [hasG e]
      rfl
    refine (readNum_any bs j h8 R F ia la da im ic lm lc dm dc l bad w hr ht (fun e hl => not_pok_part h8 (by rw [ep e]; exact hl))).mono ?_
    rintro e w' ⟨v, l', bad', rfl, hr', ht', hg', hd'⟩
    have hb : bad' = false → bad = false := fun e => (hg' e).1
    refine ⟨_, _, _, _, l', bad', rfl, hr', ⟨⟨_, _, _, rfl⟩, ⟨_, _, _, rfl⟩, ⟨_, _, _, rfl⟩, by rw [uW_ne _ _ _ _ (by omega)]; exact hk, ?_, fun h => zi (by omega), fun h => zl (by omega), fun e => gk (hb e), fun e k hk5 => by rw [uW_ne _ _ _ _ (by omega)]; exact gh (hb e) k hk5, fun e q hq => ?_, fun e => ?_, fun e => ?_, fun e => ?_, fun e => ?_⟩, hd'⟩
    · rw [hj']
      refine htr (p := if bad' = false then gPs bs j + wdt j else gSt bs (j + 1)) ?_ hb ?_
      · split
        · exact ht'
        · rename_i h
          have : bad' = true := by cases bad' <;> simp_all
          subst this
          exact ht'.any _
      · split
        · rename_i h
          rw [← ep (hb h)]
          unfold gSt
          rw [if_pos (by omega)]
        · rfl
    · rw [hj']
      by_cases hqj : q = j
      · subst hqj
        rw [uW_eq, if_pos hlt, (hg' e).2]
        unfold gV
        rw [hasG (hb e)]
        rfl
      · rw [uW_ne _ _ _ _ (by omega)]
        exact hnum (hb e) q hq hqj
    · rw [hj']; exact hti (hb e) (by omega) hd'
    · rw [hj']; exact htl (hb e) (by omega) hd'
    · rw [hj']; exact hgo (hb e) (by omega)
    · rw [hj']; exact htd (hb e) (by omega) hd'
  · have hz := zi (Nat.le_refl _)
    injection hz with z1 z2 z3
    subst z1 z2 z3
    refine (readIn_any bs R F la da lm lc dm dc l bad w hr ht hasG hby).mono ?_
    rintro e w' ⟨a, m, c, n', I', l', bad', rfl, hr', ht', ho', hg', hd'⟩
    have hb : bad' = false → bad = false := fun e => (hg' e).1
    refine ⟨_, _, _, _, l', bad', rfl, hr', ⟨⟨_, _, _, rfl⟩, ⟨_, _, _, rfl⟩, ⟨_, _, _, rfl⟩, hk, by rw [hj']; exact htr ht' hb rfl, fun h => by omega, fun h => zl (by omega), fun e => gk (hb e), fun e => gh (hb e), fun e q hq => by rw [hj']; exact hnum (hb e) q hq (by omega), fun e => ?_, fun e => by rw [hj']; exact htl (hb e) (by omega) hd', fun e => by rw [hj']; exact hgo (hb e) (by omega), fun e => by rw [hj']; exact htd (hb e) (by omega) hd'⟩, hd'⟩
    obtain ⟨-, e1, e2⟩ := hg' e
    rw [hj', if_pos hlt, ← e1]
    exact (ho'.congr e2).mono hB
  · have hz := zl (Nat.le_refl _)
    injection hz with z1 z2 z3
    subst z1 z2 z3
    refine (readLog_any bs R F ia da im ic dm dc l bad w hr ht hasG hby).mono ?_
    rintro e w' ⟨a, m, c, n', D', l', bad', rfl, hr', ht', ho', hg', hd'⟩
    have hb : bad' = false → bad = false := fun e => (hg' e).1
    refine ⟨_, _, _, _, l', bad', rfl, hr', ⟨⟨_, _, _, rfl⟩, ⟨_, _, _, rfl⟩, ⟨_, _, _, rfl⟩, hk, by rw [hj']; exact htr ht' hb rfl, fun h => by omega, fun h => by omega, fun e => gk (hb e), fun e => gh (hb e), fun e q hq => by rw [hj']; exact hnum (hb e) q hq (by omega), fun e => by rw [hj']; exact hti (hb e) (by omega) hd', fun e => ?_, fun e _ i hi => ?_, fun e => by rw [hj']; exact htd (hb e) (by omega) hd'⟩, hd'⟩
    · obtain ⟨-, e1, e2⟩ := hg' e
      rw [hj', if_pos hlt, ← e1]
      exact (ho'.congr (fun i hi => (e2 i hi).1)).mono hB
    · obtain ⟨-, e1, e2⟩ := hg' e
      exact (e2 i (by omega)).2
  · refine (readData_any bs R F ia la da im ic lm lc dm dc l bad w hr ht hasG hby).mono ?_
    rintro e w' ⟨a, m, c, d, l', bad', rfl, hr', ht', ho', hg', hd'⟩
    have hb : bad' = false → bad = false := fun e => (hg' e).1
    refine ⟨_, _, _, _, l', bad', rfl, hr', ⟨⟨_, _, _, rfl⟩, ⟨_, _, _, rfl⟩, ⟨_, _, _, rfl⟩, hk, by rw [hj']; exact htr ht' hb rfl, fun h => by omega, fun h => by omega, fun e => gk (hb e), fun e => gh (hb e), fun e q hq => by rw [hj']; exact hnum (hb e) q hq (by omega), fun e => by rw [hj']; exact hti (hb e) (by omega) hd', fun e => by rw [hj']; exact htl (hb e) (by omega) hd', fun e => by rw [hj']; exact hgo (hb e) (by omega), fun e => ?_⟩, hd'⟩
    rw [hj', if_pos hlt, ← (hg' e).2]
    exact ho'.mono hB
end Go.Proofs.Ytembppihfcclcaa

namespace Go.Proofs.Ytembppihfcclcaa
set_option linter.unusedVariables false
open Go.ChangeShapes Go.WideShapes Go.ChangeAt Go.RowKit

set_option linter.unusedSimpArgs false
theorem Sl_eval {a : Act} {s : Nat} {v : Value} (h : a.tmps[s]? = some v) : a.eval (.tmp s) = v := by
  show a.tmps.getD s undef = v
  rw [Array.getD_eq_getD_getElem?, h]
  rfl
theorem ls {P : Program} {o : Oper} {rest : List Oper} {ops : Array Oper} {Q : Exit → Act → World → Prop} {a : Act} {w : World} {v : Value} (hw : Region.wanted o (yielded ops a.tmps) = true) (hr : (execOp a.eval o).run P w = .ok (.value v) w) (h : wpList P ops Q rest (a.put o.dst v) w) : wpList P ops Q (o :: rest) a w := by
  refine BigFrame.wpList_want hw (fun K hK => ?_)
  unfold Oper.wp
  rw [hr]
  exact hK _ _ h
theorem run_fa {o : Oper} {a : Act} {w : World} {x : Operand} {b j : Nat} (ho : o.op = .fieldAddr 30 x j) (hx : a.eval x = .pointer (some ⟨b, 0, none⟩)) (hj : j < 16) : (execOp a.eval o).run Try.prog w = .ok (.value (.pointer (some ⟨b, j, none⟩))) w := by
  unfold execOp
  rw [ho]
  simp only [hx]
  rcases (by omega : j = 0 ∨ j = 1 ∨ j = 2 ∨ j = 3 ∨ j = 4 ∨ j = 5 ∨ j = 6 ∨ j = 7 ∨ j = 8 ∨ j = 9 ∨ j = 10 ∨ j = 11 ∨ j = 12 ∨ j = 13 ∨ j = 14 ∨ j = 15) with rfl | rfl | rfl | rfl | rfl | rfl | rfl | rfl | rfl | rfl | rfl | rfl | rfl | rfl | rfl | rfl
  all_goals (simp [go_sem]; try go_simp)
theorem run_ldi {o : Oper} {a : Act} {w : World} {x : Operand} {b j : Nat} {v : Int} {T : TypeId} {k : IntKind} (ho : o.op = .load T x) (hx : a.eval x = .pointer (some ⟨b, j, none⟩)) (hc : w.cell? ⟨b, j, none⟩ = some (.int k v)) (hT : (T = 3 ∧ k = .i64) ∨ (T = 23 ∧ k = .u16) ∨ (T = 24 ∧ k = .u32) ∨ (T = 25 ∧ k = .u64)) : (execOp a.eval o).run Try.prog w = .ok (.value (.int k v)) w := by
  unfold execOp
  rw [ho]
  simp only [hx]
  rcases hT with ⟨rfl, rfl⟩ | ⟨rfl, rfl⟩ | ⟨rfl, rfl⟩ | ⟨rfl, rfl⟩
  all_goals (simp [go_sem, hc]; try go_simp)
theorem run_eqi {o : Oper} {a : Act} {w : World} {x y : Operand} {u v : Int} {T : TypeId} {k : IntKind} (ho : o.op = .binOp .eql T x y T) (hx : a.eval x = .int k u) (hy : a.eval y = .int k v) (hT : (T = 3 ∧ k = .i64) ∨ (T = 23 ∧ k = .u16) ∨ (T = 24 ∧ k = .u32) ∨ (T = 25 ∧ k = .u64)) : (execOp a.eval o).run Try.prog w = .ok (.value (.bool (u == v))) w := by
  unfold execOp
  rw [ho]
  simp only [hx, hy]
  rcases hT with ⟨rfl, rfl⟩ | ⟨rfl, rfl⟩ | ⟨rfl, rfl⟩ | ⟨rfl, rfl⟩
  all_goals (simp [go_sem]; try go_simp)
theorem run_pk {o : Oper} {a : Act} {w : World} {c x y : Operand} {p : Bool} (ho : o.op = .pick c x y) (hc : a.eval c = .bool p) : (execOp a.eval o).run Try.prog w = .ok (.value (if p then a.eval x else a.eval y)) w := by
  unfold execOp
  rw [ho]
  simp only [hc]
  cases p <;> (simp [go_sem]; try go_simp)
structure Fr (lo hi : Nat) (a a' : Act) : Prop where
  d : a'.defers = a.defers
  n : a'.tmps.size = a.tmps.size
  k : ∀ i, ¬ (lo ≤ i ∧ i < hi) → a'.tmps[i]? = a.tmps[i]?
theorem Fr.refl (lo hi : Nat) (a : Act) : Fr lo hi a a := ⟨rfl, rfl, fun _ _ => rfl⟩
theorem Fr.put {lo hi : Nat} {a a' : Act} (h : Fr lo hi a a') (d : Nat) (v : Value) (hd : lo ≤ d ∧ d < hi) : Fr lo hi a (a'.put (some d) v) := by
  refine ⟨h.d, by show (a'.tmps.setIfInBounds d v).size = _; rw [Array.size_setIfInBounds, h.n], fun i hi' => ?_⟩
  show (a'.tmps.setIfInBounds d v)[i]? = _
  rw [Array.getElem?_setIfInBounds_ne (by intro e; subst e; exact hi' hd)]
  exact h.k i hi'
theorem sl_same {a : Act} {d : Nat} {v : Value} (h : d < a.tmps.size) : (a.put (some d) v).tmps[d]? = some v := by
  show (a.tmps.setIfInBounds d v)[d]? = _
  rw [Array.getElem?_setIfInBounds_self_of_lt h]
theorem sl_other {a : Act} {d s : Nat} {u v : Value} (h : a.tmps[s]? = some v) (hne : d ≠ s) : (a.put (some d) u).tmps[s]? = some v := by
  show (a.tmps.setIfInBounds d u)[s]? = _
  rw [Array.getElem?_setIfInBounds_ne hne]
  exact h
def skOk (lo hi d g : Nat) (b : Bool) (o : Oper) : Bool := (match o.guard with | some (g', b') => g' == g && b' == b | none => false) && (match o.dst with | some e => decide (lo ≤ e) && decide (e < hi) && decide (e ≠ d) | none => false)
theorem skOk_of {lo hi d g e : Nat} {b : Bool} {o : Oper} (hg : o.guard = some (g, b)) (hd : o.dst = some e) (h : lo ≤ e ∧ e < hi ∧ e ≠ d) : skOk lo hi d g b o = true := by
  unfold skOk
  rw [hg, hd]
  simp [h.1, h.2.1, h.2.2]
/-- Operations under a guard that says no. -/
theorem skips {P : Program} {ops : Array Oper} {Q : Exit → Act → World → Prop} {w : World} {a0 : Act} {lo hi d : Nat} {g : Nat} {b p : Bool} (hg : (ops[g]?).bind (·.dst) = some d) (hp : p ≠ b) : ∀ (bd : List Oper) (rest : List Oper),
    bd.all (skOk lo hi d g b) = true → ∀ a, Fr lo hi a0 a → a.tmps[d]? = some (.bool p) → (∀ a', Fr lo hi a0 a' → a'.tmps[d]? = some (.bool p) → wpList P ops Q rest a' w) → wpList P ops Q (bd ++ rest) a w
  | [], rest, _, a, hF, hs, h => h a hF hs
  | o :: bd, rest, hb, a, hF, hs, h => by
    rw [List.all_cons, Bool.and_eq_true] at hb
    obtain ⟨h12, h3⟩ := hb
    unfold skOk at h12
    rw [Bool.and_eq_true] at h12
    obtain ⟨h1, h2⟩ := h12
    rcases ho : o.guard with _ | ⟨g', b'⟩
    · rw [ho] at h1; cases h1
    rcases hd : o.dst with _ | e
    · rw [hd] at h2; cases h2
    rw [ho] at h1
    rw [hd] at h2
    simp only [Bool.and_eq_true, beq_iff_eq, decide_eq_true_eq] at h1 h2
    obtain ⟨rfl, rfl⟩ := h1
    have hw : Region.wanted o (yielded ops a.tmps) = false := by
      unfold Region.wanted yielded
      rw [ho]
      simp only [hg, Option.bind_some, hs]
      cases p <;> cases b' <;> first | rfl | exact absurd rfl hp
    refine wpList_skip hw ?_
    rw [hd]
    exact skips hg hp bd rest h3 _ (hF.put e _ h2.1) (sl_other hs h2.2) h
theorem wants {ops : Array Oper} {o : Oper} {a : Act} {d g : Nat} {b : Bool} (ho : o.guard = some (g, b)) (hg : (ops[g]?).bind (·.dst) = some d) (hs : a.tmps[d]? = some (.bool b)) : Region.wanted o (yielded ops a.tmps) = true := by
  unfold Region.wanted yielded
  rw [ho]
  simp only [hg, Option.bind_some, hs]
  cases b <;> rfl
theorem wants0 {ops : Array Oper} {o : Oper} {a : Act} (ho : o.guard = none) : Region.wanted o (yielded ops a.tmps) = true := by
  unfold Region.wanted
  rw [ho]
theorem run_nei {o : Oper} {a : Act} {w : World} {x y : Operand} {u v : Int} {T : TypeId} {k : IntKind} (ho : o.op = .binOp .neq T x y T) (hx : a.eval x = .int k u) (hy : a.eval y = .int k v) (hT : (T = 3 ∧ k = .i64) ∨ (T = 23 ∧ k = .u16) ∨ (T = 24 ∧ k = .u32) ∨ (T = 25 ∧ k = .u64)) : (execOp a.eval o).run Try.prog w = .ok (.value (.bool (u != v))) w := by
  unfold execOp
  rw [ho]
  simp only [hx, hy]
  rcases hT with ⟨rfl, rfl⟩ | ⟨rfl, rfl⟩ | ⟨rfl, rfl⟩ | ⟨rfl, rfl⟩
  all_goals (simp [go_sem]; try go_simp)
theorem run_mv {P : Program} {o : Oper} {a : Act} {w : World} {x : Operand} {v : Value} (ho : o.op = .move x) (hx : a.eval x = v) : (execOp a.eval o).run P w = .ok (.value v) w := by
  unfold execOp
  rw [ho, ← hx]
  rfl
theorem run_as {P : Program} {o : Oper} {a : Act} {w : World} {x : Operand} {v : Value} (ho : o.op = .assign x) (hx : a.eval x = v) : (execOp a.eval o).run P w = .ok (.value v) w := by
  unfold execOp
  rw [ho, ← hx]
  rfl
theorem fr_lt {lo hi : Nat} {a a' : Act} (h : Fr lo hi a a') {n d : Nat} (hs : n ≤ a.tmps.size) (hd : d < n) : d < a'.tmps.size := by rw [h.n]; omega
/-- One more test of two numbers in a row of '&&' (b: true) or '||' (b: false). -/
theorem blkS (b : Bool) {ops : Array Oper} {rest : List Oper} {Q : Exit → Act → World → Prop} {a0 a : Act} {w : World} (lo N s d g j A B : Nat) {T : TypeId} {k : IntKind} {x y : Int} {p : Bool} {o1 o2 o3 o4 o5 o6 o7 : Oper}
    (e1 : o1 = { o1 with dst := some (d), op := .move (.tmp s), guard := none })
    (e2 : o2 = { o2 with dst := some (d + 1), op := .fieldAddr 30 (.tmp 2) j, guard := some (g, b) })
    (e3 : o3 = { o3 with dst := some (d + 2), op := .load T (.tmp (d + 1)), guard := some (g, b) })
    (e4 : o4 = { o4 with dst := some (d + 3), op := .fieldAddr 30 (.tmp 3) j, guard := some (g, b) })
    (e5 : o5 = { o5 with dst := some (d + 4), op := .load T (.tmp (d + 3)), guard := some (g, b) })
    (e6 : o6 = { o6 with dst := some (d + 5), op := .binOp (bif b then .eql else .neq) T (.tmp (d + 2)) (.tmp (d + 4)) T, guard := some (g, b) })
    (e7 : o7 = { o7 with dst := some (d + 6), op := bif b then .pick (.tmp d) (.tmp (d + 5)) (.const (.bool false)) else .pick (.tmp d) (.const (.bool true)) (.tmp (d + 5)), guard := none })
    (hg : (ops[g]?).bind (·.dst) = some d) (hN : N ≤ a0.tmps.size) (hd : 3 < lo ∧ lo ≤ d ∧ d + 7 ≤ N)
    (hF : Fr lo N a0 a) (hs : a.tmps[s]? = some (.bool p)) (h2 : a0.tmps[2]? = some (.pointer (some ⟨A, 0, none⟩))) (h3 : a0.tmps[3]? = some (.pointer (some ⟨B, 0, none⟩)))
    (hj : j < 16) (hx : w.cell? ⟨A, j, none⟩ = some (.int k x)) (hy : w.cell? ⟨B, j, none⟩ = some (.int k y)) (hT : (T = 3 ∧ k = .i64) ∨ (T = 23 ∧ k = .u16) ∨ (T = 24 ∧ k = .u32) ∨ (T = 25 ∧ k = .u64))
    (h : ∀ a', Fr lo N a0 a' → a'.tmps[d + 6]? = some (.bool (bif b then p && (x == y) else p || (x != y))) → wpList Try.prog ops Q rest a' w) :
    wpList Try.prog ops Q (o1 :: o2 :: o3 :: o4 :: o5 :: o6 :: o7 :: rest) a w := by
  refine ls (v := .bool p) (wants0 (by rw [e1])) (run_mv (by rw [e1]) (Sl_eval hs)) ?_
  have d1 : o1.dst = some d := by rw [e1]
  rw [d1]
  have hF1 := hF.put d (.bool p) (by omega)
  have s1 := sl_same (v := .bool p) (fr_lt hF hN (show d < N by omega))
  generalize a.put (some d) (.bool p) = a1 at *
  have fin : ∀ a', Fr lo N a0 a' → a'.tmps[d]? = some (.bool p) → (p = b → a'.tmps[d + 5]? = some (.bool (bif b then x == y else x != y))) → wpList Try.prog ops Q (o7 :: rest) a' w := by
    intro a' hF' hs' h5
    have d7 : o7.dst = some (d + 6) := by rw [e7]
    refine ls (v := .bool (bif b then p && (x == y) else p || (x != y))) (wants0 (by rw [e7])) ?_ ?_
    · cases b
      · have e7' : o7.op = .pick (.tmp d) (.const (.bool true)) (.tmp (d + 5)) := by rw [e7]; rfl
        rw [run_pk e7' (Sl_eval hs')]
        cases p
        · rw [if_neg (by decide), Sl_eval (h5 rfl)]; rfl
        · rfl
      · have e7' : o7.op = .pick (.tmp d) (.tmp (d + 5)) (.const (.bool false)) := by rw [e7]; rfl
        rw [run_pk e7' (Sl_eval hs')]
        cases p
        · rfl
        · rw [if_pos rfl, Sl_eval (h5 rfl)]; rfl
    · rw [d7]
      exact h _ (hF'.put _ _ (by omega)) (sl_same (fr_lt hF' hN (by omega)))
  by_cases hp : p = b
  · subst hp
    have g2 : o2.guard = some (g, p) := by rw [e2]
    have g3 : o3.guard = some (g, p) := by rw [e3]
    have g4 : o4.guard = some (g, p) := by rw [e4]
    have g5 : o5.guard = some (g, p) := by rw [e5]
    have g6 : o6.guard = some (g, p) := by rw [e6]
    have d2 : o2.dst = some (d + 1) := by rw [e2]
    have d3 : o3.dst = some (d + 2) := by rw [e3]
    have d4 : o4.dst = some (d + 3) := by rw [e4]
    have d5 : o5.dst = some (d + 4) := by rw [e5]
    have d6 : o6.dst = some (d + 5) := by rw [e6]
    refine ls (wants g2 hg s1) (run_fa (by rw [e2]) (Sl_eval ((hF1.k 2 (by omega)).trans h2)) hj) ?_
    rw [d2]
    have s2 := sl_same (v := .pointer (some ⟨A, j, none⟩)) (fr_lt hF1 hN (show d + 1 < N by omega))
    replace s1 := sl_other (d := d + 1) (u := .pointer (some ⟨A, j, none⟩)) s1 (by omega)
    replace hF1 := hF1.put (d + 1) (.pointer (some ⟨A, j, none⟩)) (by omega)
    generalize a1.put (some (d + 1)) (.pointer (some ⟨A, j, none⟩)) = a2 at *
    refine ls (wants g3 hg s1) (run_ldi (by rw [e3]) (Sl_eval s2) hx hT) ?_
    rw [d3]
    have s3 := sl_same (v := .int k x) (fr_lt hF1 hN (show d + 2 < N by omega))
    replace s1 := sl_other (d := d + 2) (u := .int k x) s1 (by omega)
    replace hF1 := hF1.put (d + 2) (.int k x) (by omega)
    clear s2
    generalize a2.put (some (d + 2)) (.int k x) = a3 at *
    refine ls (wants g4 hg s1) (run_fa (by rw [e4]) (Sl_eval ((hF1.k 3 (by omega)).trans h3)) hj) ?_
    rw [d4]
    have s4 := sl_same (v := .pointer (some ⟨B, j, none⟩)) (fr_lt hF1 hN (show d + 3 < N by omega))
    replace s1 := sl_other (d := d + 3) (u := .pointer (some ⟨B, j, none⟩)) s1 (by omega)
    replace s3 := sl_other (d := d + 3) (u := .pointer (some ⟨B, j, none⟩)) s3 (by omega)
    replace hF1 := hF1.put (d + 3) (.pointer (some ⟨B, j, none⟩)) (by omega)
    generalize a3.put (some (d + 3)) (.pointer (some ⟨B, j, none⟩)) = a4 at *
    refine ls (wants g5 hg s1) (run_ldi (by rw [e5]) (Sl_eval s4) hy hT) ?_
    rw [d5]
    have s5 := sl_same (v := .int k y) (fr_lt hF1 hN (show d + 4 < N by omega))
    replace s1 := sl_other (d := d + 4) (u := .int k y) s1 (by omega)
    replace s3 := sl_other (d := d + 4) (u := .int k y) s3 (by omega)
    replace hF1 := hF1.put (d + 4) (.int k y) (by omega)
    clear s4
    generalize a4.put (some (d + 4)) (.int k y) = a5 at *
    refine ls (v := .bool (bif p then x == y else x != y)) (wants g6 hg s1) ?_ ?_
    · cases p
      · exact run_nei (by rw [e6]; rfl) (Sl_eval s3) (Sl_eval s5) hT
      · exact run_eqi (by rw [e6]; rfl) (Sl_eval s3) (Sl_eval s5) hT
    · rw [d6]
      exact fin _ (hF1.put _ _ (by omega)) (sl_other s1 (by omega)) (fun _ => sl_same (fr_lt hF1 hN (by omega)))
  · refine skips (lo := lo) (hi := N) hg hp [o2, o3, o4, o5, o6] (o7 :: rest) ?_ a1 hF1 s1 (fun a' hF' hs' => fin a' hF' hs' (fun e => absurd e hp))
    simp only [List.all_cons, List.all_nil, Bool.and_true, Bool.and_eq_true]
    exact ⟨skOk_of (e := d + 1) (by rw [e2]) (by rw [e2]) (by omega), skOk_of (e := d + 2) (by rw [e3]) (by rw [e3]) (by omega), skOk_of (e := d + 3) (by rw [e4]) (by rw [e4]) (by omega), skOk_of (e := d + 4) (by rw [e5]) (by rw [e5]) (by omega), skOk_of (e := d + 5) (by rw [e6]) (by rw [e6]) (by omega)⟩
/-- The first of a row of tests of two numbers. -/
theorem blkS0 (b : Bool) {ops : Array Oper} {rest : List Oper} {Q : Exit → Act → World → Prop} {a : Act} {w : World} (lo N d j A B : Nat) {T : TypeId} {k : IntKind} {x y : Int} {o2 o3 o4 o5 o6 : Oper}
    (e2 : o2 = { o2 with dst := some (d + 1), op := .fieldAddr 30 (.tmp 2) j, guard := none })
    (e3 : o3 = { o3 with dst := some (d + 2), op := .load T (.tmp (d + 1)), guard := none })
    (e4 : o4 = { o4 with dst := some (d + 3), op := .fieldAddr 30 (.tmp 3) j, guard := none })
    (e5 : o5 = { o5 with dst := some (d + 4), op := .load T (.tmp (d + 3)), guard := none })
    (e6 : o6 = { o6 with dst := some (d + 5), op := .binOp (bif b then .eql else .neq) T (.tmp (d + 2)) (.tmp (d + 4)) T, guard := none })
    (hN : N ≤ a.tmps.size) (hd : 3 < lo ∧ lo ≤ d + 1 ∧ d + 6 ≤ N)
    (h2 : a.tmps[2]? = some (.pointer (some ⟨A, 0, none⟩))) (h3 : a.tmps[3]? = some (.pointer (some ⟨B, 0, none⟩)))
    (hj : j < 16) (hx : w.cell? ⟨A, j, none⟩ = some (.int k x)) (hy : w.cell? ⟨B, j, none⟩ = some (.int k y)) (hT : (T = 3 ∧ k = .i64) ∨ (T = 23 ∧ k = .u16) ∨ (T = 24 ∧ k = .u32) ∨ (T = 25 ∧ k = .u64))
    (h : ∀ a', Fr lo N a a' → a'.tmps[d + 5]? = some (.bool (bif b then x == y else x != y)) → wpList Try.prog ops Q rest a' w) :
    wpList Try.prog ops Q (o2 :: o3 :: o4 :: o5 :: o6 :: rest) a w := by
  have g2 : o2.guard = none := by rw [e2]
  have g3 : o3.guard = none := by rw [e3]
  have g4 : o4.guard = none := by rw [e4]
  have g5 : o5.guard = none := by rw [e5]
  have g6 : o6.guard = none := by rw [e6]
  have d2 : o2.dst = some (d + 1) := by rw [e2]
  have d3 : o3.dst = some (d + 2) := by rw [e3]
  have d4 : o4.dst = some (d + 3) := by rw [e4]
  have d5 : o5.dst = some (d + 4) := by rw [e5]
  have d6 : o6.dst = some (d + 5) := by rw [e6]
  have hF1 := Fr.refl lo N a
  refine ls (wants0 g2) (run_fa (by rw [e2]) (Sl_eval h2) hj) ?_
  rw [d2]
  have s2 := sl_same (v := .pointer (some ⟨A, j, none⟩)) (fr_lt hF1 hN (show d + 1 < N by omega))
  replace hF1 := hF1.put (d + 1) (.pointer (some ⟨A, j, none⟩)) (by omega)
  generalize a.put (some (d + 1)) (.pointer (some ⟨A, j, none⟩)) = a2 at *
  refine ls (wants0 g3) (run_ldi (by rw [e3]) (Sl_eval s2) hx hT) ?_
  rw [d3]
  have s3 := sl_same (v := .int k x) (fr_lt hF1 hN (show d + 2 < N by omega))
  replace hF1 := hF1.put (d + 2) (.int k x) (by omega)
  clear s2
  generalize a2.put (some (d + 2)) (.int k x) = a3 at *
  refine ls (wants0 g4) (run_fa (by rw [e4]) (Sl_eval ((hF1.k 3 (by omega)).trans h3)) hj) ?_
  rw [d4]
  have s4 := sl_same (v := .pointer (some ⟨B, j, none⟩)) (fr_lt hF1 hN (show d + 3 < N by omega))
  replace s3 := sl_other (d := d + 3) (u := .pointer (some ⟨B, j, none⟩)) s3 (by omega)
  replace hF1 := hF1.put (d + 3) (.pointer (some ⟨B, j, none⟩)) (by omega)
  generalize a3.put (some (d + 3)) (.pointer (some ⟨B, j, none⟩)) = a4 at *
  refine ls (wants0 g5) (run_ldi (by rw [e5]) (Sl_eval s4) hy hT) ?_
  rw [d5]
  have s5 := sl_same (v := .int k y) (fr_lt hF1 hN (show d + 4 < N by omega))
  replace s3 := sl_other (d := d + 4) (u := .int k y) s3 (by omega)
  replace hF1 := hF1.put (d + 4) (.int k y) (by omega)
  clear s4
  generalize a4.put (some (d + 4)) (.int k y) = a5 at *
  refine ls (v := .bool (bif b then x == y else x != y)) (wants0 g6) ?_ ?_
  · cases b
    · exact run_nei (by rw [e6]; rfl) (Sl_eval s3) (Sl_eval s5) hT
    · exact run_eqi (by rw [e6]; rfl) (Sl_eval s3) (Sl_eval s5) hT
  · rw [d6]
    exact h _ (hF1.put _ _ (by omega)) (sl_same (fr_lt hF1 hN (by omega)))
/-- A frame of which some slots are not known, written out. -/
theorem Fr.lit {lo hi : Nat} {a a' : Act} (h : Fr lo hi a a') : ∃ u : Nat → Value, a' = ⟨((List.range a.tmps.size).map (fun i => if lo ≤ i ∧ i < hi then u i else a.tmps.getD i undef)).toArray, a.defers⟩ := by
  refine ⟨fun i => a'.tmps.getD i undef, ?_⟩
  obtain ⟨t, d⟩ := a'
  have hd : d = a.defers := h.d
  subst hd
  congr 1
  apply Array.ext
  · have := h.n
    simp only [List.size_toArray, List.length_map, List.length_range]
    exact this
  · intro i h1 h2
    have hk := h.k i
    have hsz : i < a.tmps.size := by simpa using h2
    simp only [List.getElem_toArray, List.getElem_map, List.getElem_range]
    split
    · simp [Array.getD, h1]
    · rename_i hn
      have e := hk hn
      have e1 : t[i]? = some t[i] := Array.getElem?_eq_getElem h1
      have e2 : a.tmps[i]? = some a.tmps[i] := Array.getElem?_eq_getElem hsz
      rw [e1, e2] at e
      refine (Option.some.inj e).trans ?_
      simp [Array.getD, hsz]
end Go.Proofs.Ytembppihfcclcaa
