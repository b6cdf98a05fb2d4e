/-
  Wire: the reference's bare.
-/
import Derived.Test.YtembppihfcclcaaG31x
import Derived.Test.YtembppihfcclcaaG17x
import Derived.Deep.DeepCutAuto
namespace Go.Proofs.Ytembppihfcclcaa
set_option linter.unusedVariables false
open Go.ChangeShapes Go.WideShapes Go.ChangeAt Go.RowKit

set_option linter.unusedSimpArgs false
theorem ls_call {P : Program} {o : Oper} {rest : List Oper} {ops : Array Oper} {Q : Exit → Act → World → Prop} {a : Act} {w : World} {v : Value} {f : FuncId} {args : Array Value} (hw : Region.wanted o (yielded ops a.tmps) = true) (hr : (execOp a.eval o).run P w = .ok (.enter f args) w) (hc : Calls P f args w fun e w' => e = .returned v ∧ w' = w) (h : wpList P ops Q rest (a.put o.dst v) w) : wpList P ops Q (o :: rest) a w := by
  refine BigFrame.wpList_want hw (fun K hK => ?_)
  unfold Oper.wp
  rw [hr, Oper.upon_enter]
  refine hc.mono ?_
  rintro e w' ⟨rfl, rfl⟩
  exact hK _ _ h
theorem run_call2 {P : Program} {o : Oper} {a : Act} {w : World} {f : FuncId} {x y : Operand} {u v : Value} {ats : Array TypeId} (hcf : ∀ args w, (callFunc f args).run P w = .ok (.enter f args) w) (ho : o.op = .call { callee := .value (.func f), args := #[x, y], argTypes := ats }) (hx : a.eval x = u) (hy : a.eval y = v) : (execOp a.eval o).run P w = .ok (.enter f #[u, v]) w := by
  obtain ⟨d1, op, t1, p1, e1, g1⟩ := o
  have ho' : op = .call { callee := .value (.func f), args := #[x, y], argTypes := ats } := ho
  subst ho'
  rw [execOp_call_go]
  have e : (#[] ++ #[x, y].map a.eval ++ #[] : Array Value) = #[u, v] := by simp [← hx, ← hy]
  rw [e]
  exact hcf _ _
theorem run_lds {o : Oper} {a : Act} {w : World} {x : Operand} {b j : Nat} {ad : Option Addr} {m cap : Nat} {T : TypeId} (ho : o.op = .load T x) (hx : a.eval x = .pointer (some ⟨b, j, none⟩)) (hc : w.cell? ⟨b, j, none⟩ = some (.slice ad m cap)) (hT : T = 26 ∨ T = 27 ∨ T = 28) : (execOp a.eval o).run Try.prog w = .ok (.value (.slice ad m cap)) w := by
  unfold execOp
  rw [ho]
  simp only [hx]
  rcases hT with rfl | rfl | rfl
  all_goals (simp [go_sem, hc]; try go_simp)
theorem run_lensl {o : Oper} {a : Act} {w : World} {x : Operand} {ad : Option Addr} {m cap : Nat} {T : TypeId} (ho : o.op = .call { callee := .builtin .len, args := #[x], argTypes := #[T] }) (hx : a.eval x = .slice ad m cap) (hT : T = 26 ∨ T = 27 ∨ T = 28) : (execOp a.eval o).run Try.prog w = .ok (.value (.int .i64 m)) w := by
  obtain ⟨d1, op, t1, p1, e1, g1⟩ := o
  have ho' : op = .call { callee := .builtin .len, args := #[x], argTypes := #[T] } := ho
  subst ho'
  clear ho
  generalize a.eval = ρ at *
  rcases hT with rfl | rfl | rfl
  all_goals (simp [go_sem, hx]; try go_simp)
theorem wantsNo {ops : Array Oper} {o : Oper} {a : Act} {d g : Nat} {b p : Bool} (ho : o.guard = some (g, b)) (hg : (ops[g]?).bind (·.dst) = some d) (hs : a.tmps[d]? = some (.bool p)) (hp : p ≠ b) : Region.wanted o (yielded ops a.tmps) = false := by
  unfold Region.wanted yielded
  rw [ho]
  simp only [hg, Option.bind_some, hs]
  cases b <;> cases p <;> first | rfl | exact absurd rfl hp
theorem wantsUn {ops : Array Oper} {o : Oper} {a : Act} {d g : Nat} {b : Bool} (ho : o.guard = some (g, b)) (hg : (ops[g]?).bind (·.dst) = some d) (hs : a.tmps[d]? = some undef) : Region.wanted o (yielded ops a.tmps) = false := by
  unfold Region.wanted yielded
  rw [ho]
  simp only [hg, Option.bind_some, hs]
  rfl
theorem blkB0 {ops : Array Oper} {rest : List Oper} {Q : Exit → Act → World → Prop} {a : Act} {w : World} (lo N d gg j A c : Nat) (K : Int) {T : TypeId} {k : IntKind} {x : Int} {o2 o3 o4 o5 o6 o7 o8 : Oper}
    (e2 : o2 = { o2 with dst := some (d + 1), op := .move (.tmp 3), guard := none })
    (e3 : o3 = { o3 with dst := some (d + 2), op := .call { callee := .value (.func 38), args := #[.tmp (d + 1), .const (.int .u8 (c : Nat))], argTypes := #[3, 5] }, guard := none })
    (e4 : o4 = { o4 with dst := some (d + 3), op := .move (.tmp (d + 2)), guard := none })
    (e5 : o5 = { o5 with dst := some (d + 4), op := .fieldAddr 30 (.tmp 1) j, guard := some (gg, false) })
    (e6 : o6 = { o6 with dst := some (d + 5), op := .load T (.tmp (d + 4)), guard := some (gg, false) })
    (e7 : o7 = { o7 with dst := some (d + 6), op := .binOp .eql T (.tmp (d + 5)) (.const (.int k 0)) T, guard := some (gg, false) })
    (e8 : o8 = { o8 with dst := some (d + 7), op := .pick (.tmp (d + 3)) (.const (.bool true)) (.tmp (d + 6)), guard := none })
    (hg3 : (ops[gg]?).bind (·.dst) = some (d + 3)) (hN : N ≤ a.tmps.size) (hd : 3 < lo ∧ lo ≤ d + 1 ∧ d + 8 ≤ N) (hc : c < 256)
    (h1 : a.tmps[1]? = some (.pointer (some ⟨A, 0, none⟩))) (h3 : a.tmps[3]? = some (.int .i64 K))
    (hj : j < 16) (hx : w.cell? ⟨A, j, none⟩ = some (.int k x)) (hT : (T = 3 ∧ k = .i64) ∨ (T = 23 ∧ k = .u16) ∨ (T = 24 ∧ k = .u32) ∨ (T = 25 ∧ k = .u64))
    (h : ∀ a', Fr lo N a a' → a'.tmps[d + 7]? = some (.bool (wB K c || x == 0)) → wpList Try.prog ops Q rest a' w) :
    wpList Try.prog ops Q (o2 :: o3 :: o4 :: o5 :: o6 :: o7 :: o8 :: rest) a w := by
  obtain ⟨a0, ha⟩ : ∃ a0, a0 = a := ⟨a, rfl⟩
  have hF : Fr lo N a0 a := by rw [ha]; exact Fr.refl lo N a
  rw [← ha] at h hN h1 h3
  clear ha
  have g2 : o2.guard = none := by rw [e2]
  have d2 : o2.dst = some (d + 1) := by rw [e2]
  have g3 : o3.guard = none := by rw [e3]
  have d3 : o3.dst = some (d + 2) := by rw [e3]
  have g4 : o4.guard = none := by rw [e4]
  have d4 : o4.dst = some (d + 3) := by rw [e4]
  have g5 : o5.guard = some (gg, false) := by rw [e5]
  have d5 : o5.dst = some (d + 4) := by rw [e5]
  have g6 : o6.guard = some (gg, false) := by rw [e6]
  have d6 : o6.dst = some (d + 5) := by rw [e6]
  have g7 : o7.guard = some (gg, false) := by rw [e7]
  have d7 : o7.dst = some (d + 6) := by rw [e7]
  have g8 : o8.guard = none := by rw [e8]
  have d8 : o8.dst = some (d + 7) := by rw [e8]
  refine ls (v := .int .i64 K) (wants0 g2) (run_mv (by rw [e2]) (Sl_eval ((hF.k 3 (by omega)).trans h3))) ?_
  rw [d2]
  have s2 := sl_same (v := .int .i64 K) (fr_lt hF hN (show d + 1 < N by omega))
  replace hF := hF.put (d + 1) (.int .i64 K) (by omega)
  generalize a.put (some (d + 1)) (.int .i64 K) = a101 at *
  refine ls_call (v := .bool (wB K c)) (wants0 g3) (run_call2 (f := 38) (x := .tmp (d + 1)) (y := .const (.int .u8 (c : Nat))) (ats := #[3, 5]) Try.call38 (by rw [e3]) (Sl_eval s2) (BigFrame.eval_const _ _)) (with_any K c hc _) ?_
  rw [d3]
  have sw := sl_same (v := .bool (wB K c)) (fr_lt hF hN (show d + 2 < N by omega))
  replace s2 := sl_other (d := d + 2) (u := .bool (wB K c)) s2 (by omega)
  replace hF := hF.put (d + 2) (.bool (wB K c)) (by omega)
  generalize a101.put (some (d + 2)) (.bool (wB K c)) = a102 at *
  clear s2
  refine ls (v := .bool (wB K c)) (wants0 g4) (run_mv (by rw [e4]) (Sl_eval sw)) ?_
  rw [d4]
  have s3 := sl_same (v := .bool (wB K c)) (fr_lt hF hN (show d + 3 < N by omega))
  replace sw := sl_other (d := d + 3) (u := .bool (wB K c)) sw (by omega)
  replace hF := hF.put (d + 3) (.bool (wB K c)) (by omega)
  generalize a102.put (some (d + 3)) (.bool (wB K c)) = a103 at *
  clear sw
  have fin2 : ∀ a', Fr lo N a0 a' → a'.tmps[d + 3]? = some (.bool (wB K c)) → (wB K c = false → a'.tmps[d + 6]? = some (.bool (x == 0))) → wpList Try.prog ops Q (o8 :: rest) a' w := by
    intro a' hF' hs3 h7
    refine ls (v := .bool (wB K c || (x == 0))) (wants0 g8) ?_ ?_
    · rw [run_pk (by rw [e8]) (Sl_eval hs3)]
      cases hw : wB K c
      · rw [if_neg (by decide), Sl_eval (h7 hw)]; rfl
      · rfl
    · rw [d8]
      exact h _ (hF'.put _ _ (by omega)) (sl_same (fr_lt hF' hN (by omega)))
  rcases hw : wB K c with _ | _
  · rw [hw] at s3
    refine ls (v := .pointer (some ⟨A, j, none⟩)) (wants g5 hg3 s3) (run_fa (by rw [e5]) (Sl_eval ((hF.k 1 (by omega)).trans h1)) hj) ?_
    rw [d5]
    have s5 := sl_same (v := .pointer (some ⟨A, j, none⟩)) (fr_lt hF hN (show d + 4 < N by omega))
    replace s3 := sl_other (d := d + 4) (u := .pointer (some ⟨A, j, none⟩)) s3 (by omega)
    replace hF := hF.put (d + 4) (.pointer (some ⟨A, j, none⟩)) (by omega)
    generalize a103.put (some (d + 4)) (.pointer (some ⟨A, j, none⟩)) = a104 at *
    refine ls (v := .int k x) (wants g6 hg3 s3) (run_ldi (by rw [e6]) (Sl_eval s5) hx hT) ?_
    rw [d6]
    have s6 := sl_same (v := .int k x) (fr_lt hF hN (show d + 5 < N by omega))
    replace s3 := sl_other (d := d + 5) (u := .int k x) s3 (by omega)
    replace s5 := sl_other (d := d + 5) (u := .int k x) s5 (by omega)
    replace hF := hF.put (d + 5) (.int k x) (by omega)
    generalize a104.put (some (d + 5)) (.int k x) = a105 at *
    clear s5
    refine ls (v := .bool (x == 0)) (wants g7 hg3 s3) (run_eqi (by rw [e7]) (Sl_eval s6) rfl hT) ?_
    rw [d7]
    have s7 := sl_same (v := .bool (x == 0)) (fr_lt hF hN (show d + 6 < N by omega))
    replace s3 := sl_other (d := d + 6) (u := .bool (x == 0)) s3 (by omega)
    replace s6 := sl_other (d := d + 6) (u := .bool (x == 0)) s6 (by omega)
    replace hF := hF.put (d + 6) (.bool (x == 0)) (by omega)
    generalize a105.put (some (d + 6)) (.bool (x == 0)) = a106 at *
    clear s6
    exact fin2 _ hF (by rw [hw]; exact s3) (fun _ => s7)
  · rw [hw] at s3
    refine wpList_skip (wantsNo g5 hg3 s3 (by decide)) ?_
    rw [d5]
    skip
    replace s3 := sl_other (d := d + 4) (u := undef) s3 (by omega)
    replace hF := hF.put (d + 4) (undef) (by omega)
    generalize a103.put (some (d + 4)) (undef) = a104 at *
    refine wpList_skip (wantsNo g6 hg3 s3 (by decide)) ?_
    rw [d6]
    skip
    replace s3 := sl_other (d := d + 5) (u := undef) s3 (by omega)
    replace hF := hF.put (d + 5) (undef) (by omega)
    generalize a104.put (some (d + 5)) (undef) = a105 at *
    refine wpList_skip (wantsNo g7 hg3 s3 (by decide)) ?_
    rw [d7]
    skip
    replace s3 := sl_other (d := d + 6) (u := undef) s3 (by omega)
    replace hF := hF.put (d + 6) (undef) (by omega)
    generalize a105.put (some (d + 6)) (undef) = a106 at *
    exact fin2 _ hF (by rw [hw]; exact s3) (fun h => by rw [hw] at h; cases h)
theorem blkB9 {ops : Array Oper} {rest : List Oper} {Q : Exit → Act → World → Prop} {a0 a : Act} {w : World} (lo N s d g gg j A c : Nat) (K : Int) {T : TypeId} {k : IntKind} {x : Int} {p : Bool} {o1 o2 o3 o4 o5 o6 o7 o8 o9 : Oper}
    (e1 : o1 = { o1 with dst := some (d), op := .move (.tmp s), guard := none })
    (e2 : o2 = { o2 with dst := some (d + 1), op := .move (.tmp 3), guard := some (g, true) })
    (e3 : o3 = { o3 with dst := some (d + 2), op := .call { callee := .value (.func 38), args := #[.tmp (d + 1), .const (.int .u8 (c : Nat))], argTypes := #[3, 5] }, guard := some (g, true) })
    (e4 : o4 = { o4 with dst := some (d + 3), op := .move (.tmp (d + 2)), guard := some (g, true) })
    (e5 : o5 = { o5 with dst := some (d + 4), op := .fieldAddr 30 (.tmp 1) j, guard := some (gg, false) })
    (e6 : o6 = { o6 with dst := some (d + 5), op := .load T (.tmp (d + 4)), guard := some (gg, false) })
    (e7 : o7 = { o7 with dst := some (d + 6), op := .binOp .eql T (.tmp (d + 5)) (.const (.int k 0)) T, guard := some (gg, false) })
    (e8 : o8 = { o8 with dst := some (d + 7), op := .pick (.tmp (d + 3)) (.const (.bool true)) (.tmp (d + 6)), guard := some (g, true) })
    (e9 : o9 = { o9 with dst := some (d + 8), op := .pick (.tmp d) (.tmp (d + 7)) (.const (.bool false)), guard := none })
    (hg : (ops[g]?).bind (·.dst) = some d) (hg3 : (ops[gg]?).bind (·.dst) = some (d + 3)) (hN : N ≤ a0.tmps.size) (hd : 3 < lo ∧ lo ≤ d ∧ d + 9 ≤ N) (hc : c < 256)
    (hF : Fr lo N a0 a) (hs : a.tmps[s]? = some (.bool p)) (h1 : a0.tmps[1]? = some (.pointer (some ⟨A, 0, none⟩))) (h3 : a0.tmps[3]? = some (.int .i64 K))
    (hj : j < 16) (hx : w.cell? ⟨A, j, none⟩ = some (.int k x)) (hT : (T = 3 ∧ k = .i64) ∨ (T = 23 ∧ k = .u16) ∨ (T = 24 ∧ k = .u32) ∨ (T = 25 ∧ k = .u64))
    (h : ∀ a', Fr lo N a0 a' → a'.tmps[d + 8]? = some (.bool (p && (wB K c || x == 0))) → wpList Try.prog ops Q rest a' w) :
    wpList Try.prog ops Q (o1 :: o2 :: o3 :: o4 :: o5 :: o6 :: o7 :: o8 :: o9 :: rest) a w := by
  have g1 : o1.guard = none := by rw [e1]
  have d1 : o1.dst = some (d) := by rw [e1]
  have g2 : o2.guard = some (g, true) := by rw [e2]
  have d2 : o2.dst = some (d + 1) := by rw [e2]
  have g3 : o3.guard = some (g, true) := by rw [e3]
  have d3 : o3.dst = some (d + 2) := by rw [e3]
  have g4 : o4.guard = some (g, true) := by rw [e4]
  have d4 : o4.dst = some (d + 3) := by rw [e4]
  have g5 : o5.guard = some (gg, false) := by rw [e5]
  have d5 : o5.dst = some (d + 4) := by rw [e5]
  have g6 : o6.guard = some (gg, false) := by rw [e6]
  have d6 : o6.dst = some (d + 5) := by rw [e6]
  have g7 : o7.guard = some (gg, false) := by rw [e7]
  have d7 : o7.dst = some (d + 6) := by rw [e7]
  have g8 : o8.guard = some (g, true) := by rw [e8]
  have d8 : o8.dst = some (d + 7) := by rw [e8]
  have g9 : o9.guard = none := by rw [e9]
  have d9 : o9.dst = some (d + 8) := by rw [e9]
  refine ls (v := .bool p) (wants0 g1) (run_mv (by rw [e1]) (Sl_eval hs)) ?_
  rw [d1]
  have s1 := sl_same (v := .bool p) (fr_lt hF hN (show d < N by omega))
  replace hF := hF.put (d) (.bool p) (by omega)
  generalize a.put (some (d)) (.bool p) = a101 at *
  clear hs
  have fin : ∀ a', Fr lo N a0 a' → a'.tmps[d]? = some (.bool p) → (p = true → a'.tmps[d + 7]? = some (.bool (wB K c || (x == 0)))) → wpList Try.prog ops Q (o9 :: rest) a' w := by
    intro a' hF' hs' h8
    refine ls (v := .bool (p && (wB K c || (x == 0)))) (wants0 g9) ?_ ?_
    · rw [run_pk (by rw [e9]) (Sl_eval hs')]
      cases p
      · rfl
      · rw [if_pos rfl, Sl_eval (h8 rfl)]; rfl
    · rw [d9]
      exact h _ (hF'.put _ _ (by omega)) (sl_same (fr_lt hF' hN (by omega)))
  cases p with
  | false =>
    refine wpList_skip (wantsNo g2 hg s1 (by decide)) ?_
    rw [d2]
    skip
    replace s1 := sl_other (d := d + 1) (u := undef) s1 (by omega)
    replace hF := hF.put (d + 1) (undef) (by omega)
    generalize a101.put (some (d + 1)) (undef) = a102 at *
    refine wpList_skip (wantsNo g3 hg s1 (by decide)) ?_
    rw [d3]
    skip
    replace s1 := sl_other (d := d + 2) (u := undef) s1 (by omega)
    replace hF := hF.put (d + 2) (undef) (by omega)
    generalize a102.put (some (d + 2)) (undef) = a103 at *
    refine wpList_skip (wantsNo g4 hg s1 (by decide)) ?_
    rw [d4]
    have s3 := sl_same (v := undef) (fr_lt hF hN (show d + 3 < N by omega))
    replace s1 := sl_other (d := d + 3) (u := undef) s1 (by omega)
    replace hF := hF.put (d + 3) (undef) (by omega)
    generalize a103.put (some (d + 3)) (undef) = a104 at *
    refine wpList_skip (wantsUn g5 hg3 s3) ?_
    rw [d5]
    skip
    replace s1 := sl_other (d := d + 4) (u := undef) s1 (by omega)
    replace s3 := sl_other (d := d + 4) (u := undef) s3 (by omega)
    replace hF := hF.put (d + 4) (undef) (by omega)
    generalize a104.put (some (d + 4)) (undef) = a105 at *
    refine wpList_skip (wantsUn g6 hg3 s3) ?_
    rw [d6]
    skip
    replace s1 := sl_other (d := d + 5) (u := undef) s1 (by omega)
    replace s3 := sl_other (d := d + 5) (u := undef) s3 (by omega)
    replace hF := hF.put (d + 5) (undef) (by omega)
    generalize a105.put (some (d + 5)) (undef) = a106 at *
    refine wpList_skip (wantsUn g7 hg3 s3) ?_
    rw [d7]
    skip
    replace s1 := sl_other (d := d + 6) (u := undef) s1 (by omega)
    replace s3 := sl_other (d := d + 6) (u := undef) s3 (by omega)
    replace hF := hF.put (d + 6) (undef) (by omega)
    generalize a106.put (some (d + 6)) (undef) = a107 at *
    refine wpList_skip (wantsNo g8 hg s1 (by decide)) ?_
    rw [d8]
    skip
    replace s1 := sl_other (d := d + 7) (u := undef) s1 (by omega)
    replace s3 := sl_other (d := d + 7) (u := undef) s3 (by omega)
    replace hF := hF.put (d + 7) (undef) (by omega)
    generalize a107.put (some (d + 7)) (undef) = a108 at *
    exact fin _ hF s1 (fun h => by cases h)
  | true =>
    refine ls (v := .int .i64 K) (wants g2 hg s1) (run_mv (by rw [e2]) (Sl_eval ((hF.k 3 (by omega)).trans h3))) ?_
    rw [d2]
    have s2 := sl_same (v := .int .i64 K) (fr_lt hF hN (show d + 1 < N by omega))
    replace s1 := sl_other (d := d + 1) (u := .int .i64 K) s1 (by omega)
    replace hF := hF.put (d + 1) (.int .i64 K) (by omega)
    generalize a101.put (some (d + 1)) (.int .i64 K) = a102 at *
    refine ls_call (v := .bool (wB K c)) (wants g3 hg s1) (run_call2 (f := 38) (x := .tmp (d + 1)) (y := .const (.int .u8 (c : Nat))) (ats := #[3, 5]) Try.call38 (by rw [e3]) (Sl_eval s2) (BigFrame.eval_const _ _)) (with_any K c hc _) ?_
    rw [d3]
    have sw := sl_same (v := .bool (wB K c)) (fr_lt hF hN (show d + 2 < N by omega))
    replace s1 := sl_other (d := d + 2) (u := .bool (wB K c)) s1 (by omega)
    replace s2 := sl_other (d := d + 2) (u := .bool (wB K c)) s2 (by omega)
    replace hF := hF.put (d + 2) (.bool (wB K c)) (by omega)
    generalize a102.put (some (d + 2)) (.bool (wB K c)) = a103 at *
    clear s2
    refine ls (v := .bool (wB K c)) (wants g4 hg s1) (run_mv (by rw [e4]) (Sl_eval sw)) ?_
    rw [d4]
    have s3 := sl_same (v := .bool (wB K c)) (fr_lt hF hN (show d + 3 < N by omega))
    replace s1 := sl_other (d := d + 3) (u := .bool (wB K c)) s1 (by omega)
    replace sw := sl_other (d := d + 3) (u := .bool (wB K c)) sw (by omega)
    replace hF := hF.put (d + 3) (.bool (wB K c)) (by omega)
    generalize a103.put (some (d + 3)) (.bool (wB K c)) = a104 at *
    clear sw
    have fin2 : ∀ a', Fr lo N a0 a' → a'.tmps[d]? = some (.bool true) → a'.tmps[d + 3]? = some (.bool (wB K c)) → (wB K c = false → a'.tmps[d + 6]? = some (.bool (x == 0))) → wpList Try.prog ops Q (o8 :: o9 :: rest) a' w := by
      intro a' hF' hs' hs3 h7
      refine ls (v := .bool (wB K c || (x == 0))) (wants g8 hg hs') ?_ ?_
      · rw [run_pk (by rw [e8]) (Sl_eval hs3)]
        cases hw : wB K c
        · rw [if_neg (by decide), Sl_eval (h7 hw)]; rfl
        · rfl
      · rw [d8]
        exact fin _ (hF'.put _ _ (by omega)) (sl_other hs' (by omega)) (fun _ => sl_same (fr_lt hF' hN (by omega)))
    rcases hw : wB K c with _ | _
    · rw [hw] at s3
      refine ls (v := .pointer (some ⟨A, j, none⟩)) (wants g5 hg3 s3) (run_fa (by rw [e5]) (Sl_eval ((hF.k 1 (by omega)).trans h1)) hj) ?_
      rw [d5]
      have s5 := sl_same (v := .pointer (some ⟨A, j, none⟩)) (fr_lt hF hN (show d + 4 < N by omega))
      replace s1 := sl_other (d := d + 4) (u := .pointer (some ⟨A, j, none⟩)) s1 (by omega)
      replace s3 := sl_other (d := d + 4) (u := .pointer (some ⟨A, j, none⟩)) s3 (by omega)
      replace hF := hF.put (d + 4) (.pointer (some ⟨A, j, none⟩)) (by omega)
      generalize a104.put (some (d + 4)) (.pointer (some ⟨A, j, none⟩)) = a105 at *
      refine ls (v := .int k x) (wants g6 hg3 s3) (run_ldi (by rw [e6]) (Sl_eval s5) hx hT) ?_
      rw [d6]
      have s6 := sl_same (v := .int k x) (fr_lt hF hN (show d + 5 < N by omega))
      replace s1 := sl_other (d := d + 5) (u := .int k x) s1 (by omega)
      replace s3 := sl_other (d := d + 5) (u := .int k x) s3 (by omega)
      replace s5 := sl_other (d := d + 5) (u := .int k x) s5 (by omega)
      replace hF := hF.put (d + 5) (.int k x) (by omega)
      generalize a105.put (some (d + 5)) (.int k x) = a106 at *
      clear s5
      refine ls (v := .bool (x == 0)) (wants g7 hg3 s3) (run_eqi (by rw [e7]) (Sl_eval s6) rfl hT) ?_
      rw [d7]
      have s7 := sl_same (v := .bool (x == 0)) (fr_lt hF hN (show d + 6 < N by omega))
      replace s1 := sl_other (d := d + 6) (u := .bool (x == 0)) s1 (by omega)
      replace s3 := sl_other (d := d + 6) (u := .bool (x == 0)) s3 (by omega)
      replace s6 := sl_other (d := d + 6) (u := .bool (x == 0)) s6 (by omega)
      replace hF := hF.put (d + 6) (.bool (x == 0)) (by omega)
      generalize a106.put (some (d + 6)) (.bool (x == 0)) = a107 at *
      clear s6
      exact fin2 _ hF s1 (by rw [hw]; exact s3) (fun _ => s7)
    · rw [hw] at s3
      refine wpList_skip (wantsNo g5 hg3 s3 (by decide)) ?_
      rw [d5]
      skip
      replace s1 := sl_other (d := d + 4) (u := undef) s1 (by omega)
      replace s3 := sl_other (d := d + 4) (u := undef) s3 (by omega)
      replace hF := hF.put (d + 4) (undef) (by omega)
      generalize a104.put (some (d + 4)) (undef) = a105 at *
      refine wpList_skip (wantsNo g6 hg3 s3 (by decide)) ?_
      rw [d6]
      skip
      replace s1 := sl_other (d := d + 5) (u := undef) s1 (by omega)
      replace s3 := sl_other (d := d + 5) (u := undef) s3 (by omega)
      replace hF := hF.put (d + 5) (undef) (by omega)
      generalize a105.put (some (d + 5)) (undef) = a106 at *
      refine wpList_skip (wantsNo g7 hg3 s3 (by decide)) ?_
      rw [d7]
      skip
      replace s1 := sl_other (d := d + 6) (u := undef) s1 (by omega)
      replace s3 := sl_other (d := d + 6) (u := undef) s3 (by omega)
      replace hF := hF.put (d + 6) (undef) (by omega)
      generalize a106.put (some (d + 6)) (undef) = a107 at *
      exact fin2 _ hF s1 (by rw [hw]; exact s3) (fun h => by rw [hw] at h; cases h)
theorem blkB10 {ops : Array Oper} {rest : List Oper} {Q : Exit → Act → World → Prop} {a0 a : Act} {w : World} (lo N s d g gg j A c : Nat) (K : Int) {T : TypeId} {ad : Option Addr} {m cap : Nat} {p : Bool} {o1 o2 o3 o4 o5 o6 o7 o8 o9 o10 : Oper}
    (e1 : o1 = { o1 with dst := some (d), op := .move (.tmp s), guard := none })
    (e2 : o2 = { o2 with dst := some (d + 1), op := .move (.tmp 3), guard := some (g, true) })
    (e3 : o3 = { o3 with dst := some (d + 2), op := .call { callee := .value (.func 38), args := #[.tmp (d + 1), .const (.int .u8 (c : Nat))], argTypes := #[3, 5] }, guard := some (g, true) })
    (e4 : o4 = { o4 with dst := some (d + 3), op := .move (.tmp (d + 2)), guard := some (g, true) })
    (e5 : o5 = { o5 with dst := some (d + 4), op := .fieldAddr 30 (.tmp 1) j, guard := some (gg, false) })
    (e6 : o6 = { o6 with dst := some (d + 5), op := .load T (.tmp (d + 4)), guard := some (gg, false) })
    (e10 : o10 = { o10 with dst := some (d + 6), op := .call { callee := .builtin .len, args := #[.tmp (d + 5)], argTypes := #[T] }, guard := some (gg, false) })
    (e7 : o7 = { o7 with dst := some (d + 7), op := .binOp .eql 3 (.tmp (d + 6)) (.const (.int .i64 0)) 3, guard := some (gg, false) })
    (e8 : o8 = { o8 with dst := some (d + 8), op := .pick (.tmp (d + 3)) (.const (.bool true)) (.tmp (d + 7)), guard := some (g, true) })
    (e9 : o9 = { o9 with dst := some (d + 9), op := .pick (.tmp d) (.tmp (d + 8)) (.const (.bool false)), guard := none })
    (hg : (ops[g]?).bind (·.dst) = some d) (hg3 : (ops[gg]?).bind (·.dst) = some (d + 3)) (hN : N ≤ a0.tmps.size) (hd : 3 < lo ∧ lo ≤ d ∧ d + 10 ≤ N) (hc : c < 256)
    (hF : Fr lo N a0 a) (hs : a.tmps[s]? = some (.bool p)) (h1 : a0.tmps[1]? = some (.pointer (some ⟨A, 0, none⟩))) (h3 : a0.tmps[3]? = some (.int .i64 K))
    (hj : j < 16) (hx : w.cell? ⟨A, j, none⟩ = some (.slice ad m cap)) (hT : T = 26 ∨ T = 27 ∨ T = 28)
    (h : ∀ a', Fr lo N a0 a' → a'.tmps[d + 9]? = some (.bool (p && (wB K c || (m : Int) == 0))) → wpList Try.prog ops Q rest a' w) :
    wpList Try.prog ops Q (o1 :: o2 :: o3 :: o4 :: o5 :: o6 :: o10 :: o7 :: o8 :: o9 :: rest) a w := by
  have g1 : o1.guard = none := by rw [e1]
  have d1 : o1.dst = some (d) := by rw [e1]
  have g2 : o2.guard = some (g, true) := by rw [e2]
  have d2 : o2.dst = some (d + 1) := by rw [e2]
  have g3 : o3.guard = some (g, true) := by rw [e3]
  have d3 : o3.dst = some (d + 2) := by rw [e3]
  have g4 : o4.guard = some (g, true) := by rw [e4]
  have d4 : o4.dst = some (d + 3) := by rw [e4]
  have g5 : o5.guard = some (gg, false) := by rw [e5]
  have d5 : o5.dst = some (d + 4) := by rw [e5]
  have g6 : o6.guard = some (gg, false) := by rw [e6]
  have d6 : o6.dst = some (d + 5) := by rw [e6]
  have g10 : o10.guard = some (gg, false) := by rw [e10]
  have d10 : o10.dst = some (d + 6) := by rw [e10]
  have g7 : o7.guard = some (gg, false) := by rw [e7]
  have d7 : o7.dst = some (d + 7) := by rw [e7]
  have g8 : o8.guard = some (g, true) := by rw [e8]
  have d8 : o8.dst = some (d + 8) := by rw [e8]
  have g9 : o9.guard = none := by rw [e9]
  have d9 : o9.dst = some (d + 9) := by rw [e9]
  refine ls (v := .bool p) (wants0 g1) (run_mv (by rw [e1]) (Sl_eval hs)) ?_
  rw [d1]
  have s1 := sl_same (v := .bool p) (fr_lt hF hN (show d < N by omega))
  replace hF := hF.put (d) (.bool p) (by omega)
  generalize a.put (some (d)) (.bool p) = a101 at *
  clear hs
  have fin : ∀ a', Fr lo N a0 a' → a'.tmps[d]? = some (.bool p) → (p = true → a'.tmps[d + 8]? = some (.bool (wB K c || ((m : Int) == 0)))) → wpList Try.prog ops Q (o9 :: rest) a' w := by
    intro a' hF' hs' h8
    refine ls (v := .bool (p && (wB K c || ((m : Int) == 0)))) (wants0 g9) ?_ ?_
    · rw [run_pk (by rw [e9]) (Sl_eval hs')]
      cases p
      · rfl
      · rw [if_pos rfl, Sl_eval (h8 rfl)]; rfl
    · rw [d9]
      exact h _ (hF'.put _ _ (by omega)) (sl_same (fr_lt hF' hN (by omega)))
  cases p with
  | false =>
    refine wpList_skip (wantsNo g2 hg s1 (by decide)) ?_
    rw [d2]
    skip
    replace s1 := sl_other (d := d + 1) (u := undef) s1 (by omega)
    replace hF := hF.put (d + 1) (undef) (by omega)
    generalize a101.put (some (d + 1)) (undef) = a102 at *
    refine wpList_skip (wantsNo g3 hg s1 (by decide)) ?_
    rw [d3]
    skip
    replace s1 := sl_other (d := d + 2) (u := undef) s1 (by omega)
    replace hF := hF.put (d + 2) (undef) (by omega)
    generalize a102.put (some (d + 2)) (undef) = a103 at *
    refine wpList_skip (wantsNo g4 hg s1 (by decide)) ?_
    rw [d4]
    have s3 := sl_same (v := undef) (fr_lt hF hN (show d + 3 < N by omega))
    replace s1 := sl_other (d := d + 3) (u := undef) s1 (by omega)
    replace hF := hF.put (d + 3) (undef) (by omega)
    generalize a103.put (some (d + 3)) (undef) = a104 at *
    refine wpList_skip (wantsUn g5 hg3 s3) ?_
    rw [d5]
    skip
    replace s1 := sl_other (d := d + 4) (u := undef) s1 (by omega)
    replace s3 := sl_other (d := d + 4) (u := undef) s3 (by omega)
    replace hF := hF.put (d + 4) (undef) (by omega)
    generalize a104.put (some (d + 4)) (undef) = a105 at *
    refine wpList_skip (wantsUn g6 hg3 s3) ?_
    rw [d6]
    skip
    replace s1 := sl_other (d := d + 5) (u := undef) s1 (by omega)
    replace s3 := sl_other (d := d + 5) (u := undef) s3 (by omega)
    replace hF := hF.put (d + 5) (undef) (by omega)
    generalize a105.put (some (d + 5)) (undef) = a106 at *
    refine wpList_skip (wantsUn g10 hg3 s3) ?_
    rw [d10]
    skip
    replace s1 := sl_other (d := d + 6) (u := undef) s1 (by omega)
    replace s3 := sl_other (d := d + 6) (u := undef) s3 (by omega)
    replace hF := hF.put (d + 6) (undef) (by omega)
    generalize a106.put (some (d + 6)) (undef) = a107 at *
    refine wpList_skip (wantsUn g7 hg3 s3) ?_
    rw [d7]
    skip
    replace s1 := sl_other (d := d + 7) (u := undef) s1 (by omega)
    replace s3 := sl_other (d := d + 7) (u := undef) s3 (by omega)
    replace hF := hF.put (d + 7) (undef) (by omega)
    generalize a107.put (some (d + 7)) (undef) = a108 at *
    refine wpList_skip (wantsNo g8 hg s1 (by decide)) ?_
    rw [d8]
    skip
    replace s1 := sl_other (d := d + 8) (u := undef) s1 (by omega)
    replace s3 := sl_other (d := d + 8) (u := undef) s3 (by omega)
    replace hF := hF.put (d + 8) (undef) (by omega)
    generalize a108.put (some (d + 8)) (undef) = a109 at *
    exact fin _ hF s1 (fun h => by cases h)
  | true =>
    refine ls (v := .int .i64 K) (wants g2 hg s1) (run_mv (by rw [e2]) (Sl_eval ((hF.k 3 (by omega)).trans h3))) ?_
    rw [d2]
    have s2 := sl_same (v := .int .i64 K) (fr_lt hF hN (show d + 1 < N by omega))
    replace s1 := sl_other (d := d + 1) (u := .int .i64 K) s1 (by omega)
    replace hF := hF.put (d + 1) (.int .i64 K) (by omega)
    generalize a101.put (some (d + 1)) (.int .i64 K) = a102 at *
    refine ls_call (v := .bool (wB K c)) (wants g3 hg s1) (run_call2 (f := 38) (x := .tmp (d + 1)) (y := .const (.int .u8 (c : Nat))) (ats := #[3, 5]) Try.call38 (by rw [e3]) (Sl_eval s2) (BigFrame.eval_const _ _)) (with_any K c hc _) ?_
    rw [d3]
    have sw := sl_same (v := .bool (wB K c)) (fr_lt hF hN (show d + 2 < N by omega))
    replace s1 := sl_other (d := d + 2) (u := .bool (wB K c)) s1 (by omega)
    replace s2 := sl_other (d := d + 2) (u := .bool (wB K c)) s2 (by omega)
    replace hF := hF.put (d + 2) (.bool (wB K c)) (by omega)
    generalize a102.put (some (d + 2)) (.bool (wB K c)) = a103 at *
    clear s2
    refine ls (v := .bool (wB K c)) (wants g4 hg s1) (run_mv (by rw [e4]) (Sl_eval sw)) ?_
    rw [d4]
    have s3 := sl_same (v := .bool (wB K c)) (fr_lt hF hN (show d + 3 < N by omega))
    replace s1 := sl_other (d := d + 3) (u := .bool (wB K c)) s1 (by omega)
    replace sw := sl_other (d := d + 3) (u := .bool (wB K c)) sw (by omega)
    replace hF := hF.put (d + 3) (.bool (wB K c)) (by omega)
    generalize a103.put (some (d + 3)) (.bool (wB K c)) = a104 at *
    clear sw
    have fin2 : ∀ a', Fr lo N a0 a' → a'.tmps[d]? = some (.bool true) → a'.tmps[d + 3]? = some (.bool (wB K c)) → (wB K c = false → a'.tmps[d + 7]? = some (.bool ((m : Int) == 0))) → wpList Try.prog ops Q (o8 :: o9 :: rest) a' w := by
      intro a' hF' hs' hs3 h7
      refine ls (v := .bool (wB K c || ((m : Int) == 0))) (wants g8 hg hs') ?_ ?_
      · rw [run_pk (by rw [e8]) (Sl_eval hs3)]
        cases hw : wB K c
        · rw [if_neg (by decide), Sl_eval (h7 hw)]; rfl
        · rfl
      · rw [d8]
        exact fin _ (hF'.put _ _ (by omega)) (sl_other hs' (by omega)) (fun _ => sl_same (fr_lt hF' hN (by omega)))
    rcases hw : wB K c with _ | _
    · rw [hw] at s3
      refine ls (v := .pointer (some ⟨A, j, none⟩)) (wants g5 hg3 s3) (run_fa (by rw [e5]) (Sl_eval ((hF.k 1 (by omega)).trans h1)) hj) ?_
      rw [d5]
      have s5 := sl_same (v := .pointer (some ⟨A, j, none⟩)) (fr_lt hF hN (show d + 4 < N by omega))
      replace s1 := sl_other (d := d + 4) (u := .pointer (some ⟨A, j, none⟩)) s1 (by omega)
      replace s3 := sl_other (d := d + 4) (u := .pointer (some ⟨A, j, none⟩)) s3 (by omega)
      replace hF := hF.put (d + 4) (.pointer (some ⟨A, j, none⟩)) (by omega)
      generalize a104.put (some (d + 4)) (.pointer (some ⟨A, j, none⟩)) = a105 at *
      refine ls (v := .slice ad m cap) (wants g6 hg3 s3) (run_lds (by rw [e6]) (Sl_eval s5) hx hT) ?_
      rw [d6]
      have s6 := sl_same (v := .slice ad m cap) (fr_lt hF hN (show d + 5 < N by omega))
      replace s1 := sl_other (d := d + 5) (u := .slice ad m cap) s1 (by omega)
      replace s3 := sl_other (d := d + 5) (u := .slice ad m cap) s3 (by omega)
      replace s5 := sl_other (d := d + 5) (u := .slice ad m cap) s5 (by omega)
      replace hF := hF.put (d + 5) (.slice ad m cap) (by omega)
      generalize a105.put (some (d + 5)) (.slice ad m cap) = a106 at *
      clear s5
      refine ls (v := .int .i64 m) (wants g10 hg3 s3) (run_lensl (by rw [e10]) (Sl_eval s6) hT) ?_
      rw [d10]
      have sL := sl_same (v := .int .i64 m) (fr_lt hF hN (show d + 6 < N by omega))
      replace s1 := sl_other (d := d + 6) (u := .int .i64 m) s1 (by omega)
      replace s3 := sl_other (d := d + 6) (u := .int .i64 m) s3 (by omega)
      replace s6 := sl_other (d := d + 6) (u := .int .i64 m) s6 (by omega)
      replace hF := hF.put (d + 6) (.int .i64 m) (by omega)
      generalize a106.put (some (d + 6)) (.int .i64 m) = a107 at *
      clear s6
      refine ls (v := .bool ((m : Int) == 0)) (wants g7 hg3 s3) (run_eqi (by rw [e7]) (Sl_eval sL) rfl (Or.inl ⟨rfl, rfl⟩)) ?_
      rw [d7]
      have s7 := sl_same (v := .bool ((m : Int) == 0)) (fr_lt hF hN (show d + 7 < N by omega))
      replace s1 := sl_other (d := d + 7) (u := .bool ((m : Int) == 0)) s1 (by omega)
      replace s3 := sl_other (d := d + 7) (u := .bool ((m : Int) == 0)) s3 (by omega)
      replace sL := sl_other (d := d + 7) (u := .bool ((m : Int) == 0)) sL (by omega)
      replace hF := hF.put (d + 7) (.bool ((m : Int) == 0)) (by omega)
      generalize a107.put (some (d + 7)) (.bool ((m : Int) == 0)) = a108 at *
      clear sL
      exact fin2 _ hF s1 (by rw [hw]; exact s3) (fun _ => s7)
    · rw [hw] at s3
      refine wpList_skip (wantsNo g5 hg3 s3 (by decide)) ?_
      rw [d5]
      skip
      replace s1 := sl_other (d := d + 4) (u := undef) s1 (by omega)
      replace s3 := sl_other (d := d + 4) (u := undef) s3 (by omega)
      replace hF := hF.put (d + 4) (undef) (by omega)
      generalize a104.put (some (d + 4)) (undef) = a105 at *
      refine wpList_skip (wantsNo g6 hg3 s3 (by decide)) ?_
      rw [d6]
      skip
      replace s1 := sl_other (d := d + 5) (u := undef) s1 (by omega)
      replace s3 := sl_other (d := d + 5) (u := undef) s3 (by omega)
      replace hF := hF.put (d + 5) (undef) (by omega)
      generalize a105.put (some (d + 5)) (undef) = a106 at *
      refine wpList_skip (wantsNo g10 hg3 s3 (by decide)) ?_
      rw [d10]
      skip
      replace s1 := sl_other (d := d + 6) (u := undef) s1 (by omega)
      replace s3 := sl_other (d := d + 6) (u := undef) s3 (by omega)
      replace hF := hF.put (d + 6) (undef) (by omega)
      generalize a106.put (some (d + 6)) (undef) = a107 at *
      refine wpList_skip (wantsNo g7 hg3 s3 (by decide)) ?_
      rw [d7]
      skip
      replace s1 := sl_other (d := d + 7) (u := undef) s1 (by omega)
      replace s3 := sl_other (d := d + 7) (u := undef) s3 (by omega)
      replace hF := hF.put (d + 7) (undef) (by omega)
      generalize a107.put (some (d + 7)) (undef) = a108 at *
      exact fin2 _ hF s1 (by rw [hw]; exact s3) (fun h => by rw [hw] at h; cases h)
/-- What a message has beside its parts, and what it has not, is nought. -/
def bareM (M : Msg) : Bool := (wB (M.F 0) 115 || M.F 5 == 0) && (wB (M.F 0) 103 || M.F 6 == 0) && (wB (M.F 0) 102 || M.F 7 == 0) && (wB (M.F 0) 99 || M.F 8 == 0) && (wB (M.F 0) 110 || M.F 9 == 0) && (wB (M.F 0) 111 || M.F 10 == 0) && (wB (M.F 0) 98 || M.F 11 == 0) && (wB (M.F 0) 109 || M.F 12 == 0) && (wB (M.F 0) 105 || (M.ni : Int) == 0) && (wB (M.F 0) 108 || (M.nl : Int) == 0) && (wB (M.F 0) 100 || (M.d.length : Int) == 0)
set_option maxRecDepth 100000 in
set_option maxHeartbeats 4000000 in
theorem bare_any (M : Msg) (iv lv dv : Value) (w : World) (h : RowsV w iv lv dv M) :
    Calls Try.prog 37 #[.agg (msgL M.F iv lv dv).toArray] w fun e w' => e = .returned (.bool (bareM M)) ∧ Below w.heap.size w w' := by
  obtain ⟨⟨ia, ic, rfl, -⟩, ⟨la, lc, rfl, -⟩, ⟨da, dc, rfl, -⟩⟩ := h
  have HA := Lib.hid (msgAt_new M.F (.slice ia M.ni ic) (.slice la M.nl lc) (.slice da M.d.length dc) 30 w)
  have HB := Lib.hid ((Below.refl w.heap.size w).alloc (Nat.le_refl _) (Obj.cells (msgL M.F (.slice ia M.ni ic) (.slice la M.nl lc) (.slice da M.d.length dc)).toArray 30))
  have c0 := HA.out.c0
  go_enter Try.func37, Try.ntmps37
  go_upto_region 2 with (fail)
  generalize w.alloc (Obj.cells (msgL M.F (.slice ia M.ni ic) (.slice la M.nl lc) (.slice da M.d.length dc)).toArray 30) = w1 at *
  clear c0
  refine wp_region_lit ?_
  refine blkB0 6 106 5 2 5 w.heap.size 115 (M.F 0) rfl rfl rfl rfl rfl rfl rfl rfl (of_decide_eq_true (by kernel_rfl)) (by decide) (by decide) rfl rfl (by decide) HA.out.c5 (Or.inl ⟨rfl, rfl⟩) ?_
  intro a1 hF1 hs1
  refine blkB9 6 106 12 13 7 10 6 w.heap.size 103 (M.F 0) rfl rfl rfl rfl rfl rfl rfl rfl rfl rfl rfl (of_decide_eq_true (by kernel_rfl)) (by decide) (by decide) hF1 hs1 rfl rfl (by decide) HA.out.c6 (Or.inl ⟨rfl, rfl⟩) ?_
  clear hF1 hs1
  intro a2 hF2 hs2
  refine blkB9 6 106 21 22 16 19 7 w.heap.size 102 (M.F 0) rfl rfl rfl rfl rfl rfl rfl rfl rfl rfl rfl (of_decide_eq_true (by kernel_rfl)) (by decide) (by decide) hF2 hs2 rfl rfl (by decide) HA.out.c7 (Or.inl ⟨rfl, rfl⟩) ?_
  clear hF2 hs2
  intro a3 hF3 hs3
  refine blkB9 6 106 30 31 25 28 8 w.heap.size 99 (M.F 0) rfl rfl rfl rfl rfl rfl rfl rfl rfl rfl rfl (of_decide_eq_true (by kernel_rfl)) (by decide) (by decide) hF3 hs3 rfl rfl (by decide) HA.out.c8 (Or.inl ⟨rfl, rfl⟩) ?_
  clear hF3 hs3
  intro a4 hF4 hs4
  refine blkB9 6 106 39 40 34 37 9 w.heap.size 110 (M.F 0) rfl rfl rfl rfl rfl rfl rfl rfl rfl rfl rfl (of_decide_eq_true (by kernel_rfl)) (by decide) (by decide) hF4 hs4 rfl rfl (by decide) HA.out.c9 (Or.inl ⟨rfl, rfl⟩) ?_
  clear hF4 hs4
  intro a5 hF5 hs5
  refine blkB9 6 106 48 49 43 46 10 w.heap.size 111 (M.F 0) rfl rfl rfl rfl rfl rfl rfl rfl rfl rfl rfl (of_decide_eq_true (by kernel_rfl)) (by decide) (by decide) hF5 hs5 rfl rfl (by decide) HA.out.c10 (Or.inl ⟨rfl, rfl⟩) ?_
  clear hF5 hs5
  intro a6 hF6 hs6
  refine blkB9 6 106 57 58 52 55 11 w.heap.size 98 (M.F 0) rfl rfl rfl rfl rfl rfl rfl rfl rfl rfl rfl (of_decide_eq_true (by kernel_rfl)) (by decide) (by decide) hF6 hs6 rfl rfl (by decide) HA.out.c11 (Or.inr (Or.inr (Or.inl ⟨rfl, rfl⟩))) ?_
  clear hF6 hs6
  intro a7 hF7 hs7
  refine blkB9 6 106 66 67 61 64 12 w.heap.size 109 (M.F 0) rfl rfl rfl rfl rfl rfl rfl rfl rfl rfl rfl (of_decide_eq_true (by kernel_rfl)) (by decide) (by decide) hF7 hs7 rfl rfl (by decide) HA.out.c12 (Or.inr (Or.inr (Or.inr ⟨rfl, rfl⟩))) ?_
  clear hF7 hs7
  intro a8 hF8 hs8
  refine blkB10 6 106 75 76 70 73 13 w.heap.size 105 (M.F 0) rfl rfl rfl rfl rfl rfl rfl rfl rfl rfl rfl rfl (of_decide_eq_true (by kernel_rfl)) (by decide) (by decide) hF8 hs8 rfl rfl (by decide) HA.out.c13 (Or.inl rfl) ?_
  clear hF8 hs8
  intro a9 hF9 hs9
  refine blkB10 6 106 85 86 80 83 14 w.heap.size 108 (M.F 0) rfl rfl rfl rfl rfl rfl rfl rfl rfl rfl rfl rfl (of_decide_eq_true (by kernel_rfl)) (by decide) (by decide) hF9 hs9 rfl rfl (by decide) HA.out.c14 (Or.inr (Or.inl rfl)) ?_
  clear hF9 hs9
  intro a10 hF10 hs10
  refine blkB10 6 106 95 96 90 93 15 w.heap.size 100 (M.F 0) rfl rfl rfl rfl rfl rfl rfl rfl rfl rfl rfl rfl (of_decide_eq_true (by kernel_rfl)) (by decide) (by decide) hF10 hs10 rfl rfl (by decide) HA.out.c15 (Or.inr (Or.inr rfl)) ?_
  clear hF10 hs10
  intro a11 hF11 hs11
  have hs : a11.tmps[105]? = some (.bool (bareM M)) := hs11
  clear hs11
  obtain ⟨u, hu⟩ := hF11.lit
  have hl : a11 = ⟨#[.agg (msgL M.F (.slice ia M.ni ic) (.slice la M.nl lc) (.slice da M.d.length dc)).toArray, .pointer (some ⟨w.heap.size, 0, none⟩), .bool false, .int .i64 (M.F 0), .pointer (some ⟨w.heap.size, 0, none⟩), .int .i64 (M.F 0), u 6, u 7, u 8, u 9, u 10, u 11, u 12, u 13, u 14, u 15, u 16, u 17, u 18, u 19, u 20, u 21, u 22, u 23, u 24, u 25, u 26, u 27, u 28, u 29, u 30, u 31, u 32, u 33, u 34, u 35, u 36, u 37, u 38, u 39, u 40, u 41, u 42, u 43, u 44, u 45, u 46, u 47, u 48, u 49, u 50, u 51, u 52, u 53, u 54, u 55, u 56, u 57, u 58, u 59, u 60, u 61, u 62, u 63, u 64, u 65, u 66, u 67, u 68, u 69, u 70, u 71, u 72, u 73, u 74, u 75, u 76, u 77, u 78, u 79, u 80, u 81, u 82, u 83, u 84, u 85, u 86, u 87, u 88, u 89, u 90, u 91, u 92, u 93, u 94, u 95, u 96, u 97, u 98, u 99, u 100, u 101, u 102, u 103, u 104, u 105], []⟩ := hu.trans (by kernel_rfl)
  clear hu hF11
  subst hl
  have hsl : u 105 = .bool (bareM M) := Option.some.inj hs
  clear hs
  rw [hsl]
  generalize u = uu at *
  go_wp2_with fail
  go_ret
  exact ⟨rfl, HB.out⟩
end Go.Proofs.Ytembppihfcclcaa
