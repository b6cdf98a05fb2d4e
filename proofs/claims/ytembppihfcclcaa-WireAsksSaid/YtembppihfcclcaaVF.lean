/-
  Wire: the reference's May.
-/
import Derived.Test.YtembppihfcclcaaVE
import Derived.Test.YtembppihfcclcaaX
import Derived.Deep.DeepCutAuto
namespace Go.Proofs.Ytembppihfcclcaa
set_option linter.unusedVariables false
open Go.ChangeShapes Go.WideShapes Go.ChangeAt Go.RowKit

set_option linter.unusedSimpArgs false
theorem run_cmp3 {o : Oper} {a : Act} {w : World} {x y : Operand} {u v : Int} {T : TypeId} {k : IntKind} {op : BinOp} {r : Bool} (ho : o.op = .binOp op T x y T) (hx : a.eval x = .int k u) (hy : a.eval y = .int k v) (hT : (T = 3 ∧ k = .i64) ∨ (T = 23 ∧ k = .u16) ∨ (T = 24 ∧ k = .u32) ∨ (T = 25 ∧ k = .u64)) (hr : (op = .lss ∧ r = decide (u < v)) ∨ (op = .gtr ∧ r = decide (v < u)) ∨ (op = .geq ∧ r = decide (v ≤ u)) ∨ (op = .leq ∧ r = decide (u ≤ v))) : (execOp a.eval o).run Try.prog w = .ok (.value (.bool r)) w := by
  unfold execOp
  rw [ho]
  simp only [hx, hy]
  rcases hT with ⟨rfl, rfl⟩ | ⟨rfl, rfl⟩ | ⟨rfl, rfl⟩ | ⟨rfl, rfl⟩
  all_goals (rcases hr with ⟨rfl, rfl⟩ | ⟨rfl, rfl⟩ | ⟨rfl, rfl⟩ | ⟨rfl, rfl⟩)
  all_goals (simp [go_sem]; try go_simp)
section
variable {o : Oper} {a : Act} {w : World} {x y : Operand} {u v : Int} {T : TypeId} {k : IntKind}
theorem run_eql (ho : o.op = .binOp .eql T x y T) (hx : a.eval x = .int k u) (hy : a.eval y = .int k v) (hT : (T = 3 ∧ k = .i64) ∨ (T = 23 ∧ k = .u16) ∨ (T = 24 ∧ k = .u32) ∨ (T = 25 ∧ k = .u64)) : (execOp a.eval o).run Try.prog w = .ok (.value (.bool (u == v))) w := run_eqi ho hx hy hT
theorem run_neq (ho : o.op = .binOp .neq T x y T) (hx : a.eval x = .int k u) (hy : a.eval y = .int k v) (hT : (T = 3 ∧ k = .i64) ∨ (T = 23 ∧ k = .u16) ∨ (T = 24 ∧ k = .u32) ∨ (T = 25 ∧ k = .u64)) : (execOp a.eval o).run Try.prog w = .ok (.value (.bool (u != v))) w := run_nei ho hx hy hT
theorem run_lss (ho : o.op = .binOp .lss T x y T) (hx : a.eval x = .int k u) (hy : a.eval y = .int k v) (hT : (T = 3 ∧ k = .i64) ∨ (T = 23 ∧ k = .u16) ∨ (T = 24 ∧ k = .u32) ∨ (T = 25 ∧ k = .u64)) : (execOp a.eval o).run Try.prog w = .ok (.value (.bool (decide (u < v)))) w := run_cmp3 ho hx hy hT (Or.inl ⟨rfl, rfl⟩)
theorem run_gtr (ho : o.op = .binOp .gtr T x y T) (hx : a.eval x = .int k u) (hy : a.eval y = .int k v) (hT : (T = 3 ∧ k = .i64) ∨ (T = 23 ∧ k = .u16) ∨ (T = 24 ∧ k = .u32) ∨ (T = 25 ∧ k = .u64)) : (execOp a.eval o).run Try.prog w = .ok (.value (.bool (decide (v < u)))) w := run_cmp3 ho hx hy hT (Or.inr (Or.inl ⟨rfl, rfl⟩))
theorem run_geq (ho : o.op = .binOp .geq T x y T) (hx : a.eval x = .int k u) (hy : a.eval y = .int k v) (hT : (T = 3 ∧ k = .i64) ∨ (T = 23 ∧ k = .u16) ∨ (T = 24 ∧ k = .u32) ∨ (T = 25 ∧ k = .u64)) : (execOp a.eval o).run Try.prog w = .ok (.value (.bool (decide (v ≤ u)))) w := run_cmp3 ho hx hy hT (Or.inr (Or.inr (Or.inl ⟨rfl, rfl⟩)))
theorem run_leq (ho : o.op = .binOp .leq T x y T) (hx : a.eval x = .int k u) (hy : a.eval y = .int k v) (hT : (T = 3 ∧ k = .i64) ∨ (T = 23 ∧ k = .u16) ∨ (T = 24 ∧ k = .u32) ∨ (T = 25 ∧ k = .u64)) : (execOp a.eval o).run Try.prog w = .ok (.value (.bool (decide (u ≤ v)))) w := run_cmp3 ho hx hy hT (Or.inr (Or.inr (Or.inr ⟨rfl, rfl⟩)))
theorem run_ldm {b : Nat} {F : Nat → Int} {iv lv dv : Value} (ho : o.op = .load 30 x) (hx : a.eval x = .pointer (some ⟨b, 0, none⟩)) (hA : MsgAt w b F iv lv dv) : (execOp a.eval o).run Try.prog w = .ok (.value (.agg (msgL F iv lv dv).toArray)) w := by
  unfold execOp
  simp only [ho, hx, Instr.loadAt, Instr.sureAddr, Sem.run_bind, Sem.run_pure, Result.andThen_ok, run_loadVar_mid w b 0 30 _ _ hA.range Try.underlying30 rfl (size_msg _ _ _ _)]
theorem run_call1 {P : Program} {f : FuncId} {u : Value} {ats : Array TypeId} (hcf : ∀ args w, (callFunc f args).run P w = .ok (.enter f args) w) (ho : o.op = .call { callee := .value (.func f), args := #[x], argTypes := ats }) (hx : a.eval x = u) : (execOp a.eval o).run P w = .ok (.enter f #[u]) w := by
  obtain ⟨d1, op, t1, p1, e1, g1⟩ := o
  have ho' : op = .call { callee := .value (.func f), args := #[x], argTypes := ats } := ho
  subst ho'
  rw [execOp_call_go]
  have e : (#[] ++ #[x].map a.eval ++ #[] : Array Value) = #[u] := by simp [← hx]
  rw [e]
  exact hcf _ _
theorem ls_callw {P : Program} {rest : List Oper} {ops : Array Oper} {Q : Exit → Act → World → Prop} {v : Value} {f : FuncId} {args : Array Value} (hw : Region.wanted o (yielded ops a.tmps) = true) (hr : (execOp a.eval o).run P w = .ok (.enter f args) w) (hc : Calls P f args w fun e w' => e = .returned v ∧ Below w.heap.size w w') (h : ∀ w', Below w.heap.size w w' → wpList P ops Q rest (a.put o.dst v) w') : wpList P ops Q (o :: rest) a w := by
  refine BigFrame.wpList_want hw (fun K hK => ?_)
  unfold Oper.wp
  rw [hr, Oper.upon_enter]
  refine hc.mono ?_
  rintro e w' ⟨rfl, hb⟩
  exact hK _ _ (h _ hb)
theorem run_pkT {c : Operand} {r : Value} (ho : o.op = .pick c x y) (hc : a.eval c = .bool true) (hx : a.eval x = r) : (execOp a.eval o).run Try.prog w = .ok (.value r) w := by
  rw [run_pk ho hc, if_pos rfl, hx]
theorem run_pkF {c : Operand} {r : Value} (ho : o.op = .pick c x y) (hc : a.eval c = .bool false) (hy : a.eval y = r) : (execOp a.eval o).run Try.prog w = .ok (.value r) w := by
  rw [run_pk ho hc, if_neg (by decide), hy]
theorem run_not {b : Bool} (ho : o.op = .unOp .not 4 x) (hx : a.eval x = .bool b) : (execOp a.eval o).run Try.prog w = .ok (.value (.bool (!b))) w := by
  unfold execOp
  rw [ho]
  simp only [hx]
  simp [go_sem]; try go_simp
end
set_option maxHeartbeats 4000000 in
theorem regC {ops : Array Oper} {rest : List Oper} {Q : Exit → Act → World → Prop} {a0 : Act} {w0 : World} {A : Nat} {K : Int} {F : Nat → Int} {ia la da : Option Addr} {ni ic nl lc dl dc : Nat} {q67 q62 q57 q52 q47 q42 q37 q32 q26 q22 q17 q9 q12 : Bool} {o8 o9 o10 o11 o12 o13 o14 o15 o16 o17 o18 o19 o20 o21 o22 o23 o24 o25 o26 o27 o28 o29 o30 o31 o32 o33 o34 o35 o36 o37 o38 o39 o40 o41 o42 o43 o44 o45 o46 o47 o48 o49 o50 o51 o52 o53 o54 o55 o56 o57 o58 o59 o60 o61 o62 o63 o64 o65 o66 o67 o68 : Oper}
    (e8 : o8 = { o8 with dst := some 8, op := .move (.tmp 3), guard := none })
    (e9 : o9 = { o9 with dst := some 9, op := .binOp .lss 3 (.tmp 8) (.const (.int .i64 1)) 3, guard := none })
    (e10 : o10 = { o10 with dst := some 10, op := .move (.tmp 9), guard := none })
    (e11 : o11 = { o11 with dst := some 11, op := .move (.tmp 3), guard := some (2, false) })
    (e12 : o12 = { o12 with dst := some 12, op := .binOp .gtr 3 (.tmp 11) (.const (.int .i64 14)) 3, guard := some (2, false) })
    (e13 : o13 = { o13 with dst := some 13, op := .pick (.tmp 10) (.const (.bool true)) (.tmp 12), guard := none })
    (e14 : o14 = { o14 with dst := some 14, op := .move (.tmp 13), guard := none })
    (e15 : o15 = { o15 with dst := some 15, op := .fieldAddr 30 (.tmp 1) 1, guard := some (6, false) })
    (e16 : o16 = { o16 with dst := some 16, op := .load 3 (.tmp 15), guard := some (6, false) })
    (e17 : o17 = { o17 with dst := some 17, op := .binOp .lss 3 (.tmp 16) (.const (.int .i64 0)) 3, guard := some (6, false) })
    (e18 : o18 = { o18 with dst := some 18, op := .pick (.tmp 14) (.const (.bool true)) (.tmp 17), guard := none })
    (e19 : o19 = { o19 with dst := some 19, op := .move (.tmp 18), guard := none })
    (e20 : o20 = { o20 with dst := some 20, op := .fieldAddr 30 (.tmp 1) 1, guard := some (11, false) })
    (e21 : o21 = { o21 with dst := some 21, op := .load 3 (.tmp 20), guard := some (11, false) })
    (e22 : o22 = { o22 with dst := some 22, op := .binOp .geq 3 (.tmp 21) (.const (.int .i64 12)) 3, guard := some (11, false) })
    (e23 : o23 = { o23 with dst := some 23, op := .pick (.tmp 19) (.const (.bool true)) (.tmp 22), guard := none })
    (e24 : o24 = { o24 with dst := some 24, op := .move (.tmp 23), guard := none })
    (e25 : o25 = { o25 with dst := some 25, op := .load 30 (.tmp 1), guard := some (16, false) })
    (e26 : o26 = { o26 with dst := some 26, op := .call { callee := .value (.func 37), args := #[.tmp 25], argTypes := #[30] }, guard := some (16, false) })
    (e27 : o27 = { o27 with dst := some 27, op := .unOp .not 4 (.tmp 26), guard := some (16, false) })
    (e28 : o28 = { o28 with dst := some 28, op := .pick (.tmp 24) (.const (.bool true)) (.tmp 27), guard := none })
    (e29 : o29 = { o29 with dst := some 29, op := .move (.tmp 28), guard := none })
    (e30 : o30 = { o30 with dst := some 30, op := .fieldAddr 30 (.tmp 1) 5, guard := some (21, false) })
    (e31 : o31 = { o31 with dst := some 31, op := .load 3 (.tmp 30), guard := some (21, false) })
    (e32 : o32 = { o32 with dst := some 32, op := .binOp .lss 3 (.tmp 31) (.const (.int .i64 0)) 3, guard := some (21, false) })
    (e33 : o33 = { o33 with dst := some 33, op := .pick (.tmp 29) (.const (.bool true)) (.tmp 32), guard := none })
    (e34 : o34 = { o34 with dst := some 34, op := .move (.tmp 33), guard := none })
    (e35 : o35 = { o35 with dst := some 35, op := .fieldAddr 30 (.tmp 1) 5, guard := some (26, false) })
    (e36 : o36 = { o36 with dst := some 36, op := .load 3 (.tmp 35), guard := some (26, false) })
    (e37 : o37 = { o37 with dst := some 37, op := .binOp .geq 3 (.tmp 36) (.const (.int .i64 8)) 3, guard := some (26, false) })
    (e38 : o38 = { o38 with dst := some 38, op := .pick (.tmp 34) (.const (.bool true)) (.tmp 37), guard := none })
    (e39 : o39 = { o39 with dst := some 39, op := .move (.tmp 38), guard := none })
    (e40 : o40 = { o40 with dst := some 40, op := .fieldAddr 30 (.tmp 1) 7, guard := some (31, false) })
    (e41 : o41 = { o41 with dst := some 41, op := .load 3 (.tmp 40), guard := some (31, false) })
    (e42 : o42 = { o42 with dst := some 42, op := .binOp .lss 3 (.tmp 41) (.const (.int .i64 0)) 3, guard := some (31, false) })
    (e43 : o43 = { o43 with dst := some 43, op := .pick (.tmp 39) (.const (.bool true)) (.tmp 42), guard := none })
    (e44 : o44 = { o44 with dst := some 44, op := .move (.tmp 43), guard := none })
    (e45 : o45 = { o45 with dst := some 45, op := .fieldAddr 30 (.tmp 1) 7, guard := some (36, false) })
    (e46 : o46 = { o46 with dst := some 46, op := .load 3 (.tmp 45), guard := some (36, false) })
    (e47 : o47 = { o47 with dst := some 47, op := .binOp .gtr 3 (.tmp 46) (.const (.int .i64 1048576)) 3, guard := some (36, false) })
    (e48 : o48 = { o48 with dst := some 48, op := .pick (.tmp 44) (.const (.bool true)) (.tmp 47), guard := none })
    (e49 : o49 = { o49 with dst := some 49, op := .move (.tmp 48), guard := none })
    (e50 : o50 = { o50 with dst := some 50, op := .fieldAddr 30 (.tmp 1) 8, guard := some (41, false) })
    (e51 : o51 = { o51 with dst := some 51, op := .load 3 (.tmp 50), guard := some (41, false) })
    (e52 : o52 = { o52 with dst := some 52, op := .binOp .lss 3 (.tmp 51) (.const (.int .i64 0)) 3, guard := some (41, false) })
    (e53 : o53 = { o53 with dst := some 53, op := .pick (.tmp 49) (.const (.bool true)) (.tmp 52), guard := none })
    (e54 : o54 = { o54 with dst := some 54, op := .move (.tmp 53), guard := none })
    (e55 : o55 = { o55 with dst := some 55, op := .fieldAddr 30 (.tmp 1) 8, guard := some (46, false) })
    (e56 : o56 = { o56 with dst := some 56, op := .load 3 (.tmp 55), guard := some (46, false) })
    (e57 : o57 = { o57 with dst := some 57, op := .binOp .gtr 3 (.tmp 56) (.const (.int .i64 9)) 3, guard := some (46, false) })
    (e58 : o58 = { o58 with dst := some 58, op := .pick (.tmp 54) (.const (.bool true)) (.tmp 57), guard := none })
    (e59 : o59 = { o59 with dst := some 59, op := .move (.tmp 58), guard := none })
    (e60 : o60 = { o60 with dst := some 60, op := .fieldAddr 30 (.tmp 1) 9, guard := some (51, false) })
    (e61 : o61 = { o61 with dst := some 61, op := .load 3 (.tmp 60), guard := some (51, false) })
    (e62 : o62 = { o62 with dst := some 62, op := .binOp .lss 3 (.tmp 61) (.const (.int .i64 0)) 3, guard := some (51, false) })
    (e63 : o63 = { o63 with dst := some 63, op := .pick (.tmp 59) (.const (.bool true)) (.tmp 62), guard := none })
    (e64 : o64 = { o64 with dst := some 64, op := .move (.tmp 63), guard := none })
    (e65 : o65 = { o65 with dst := some 65, op := .fieldAddr 30 (.tmp 1) 9, guard := some (56, false) })
    (e66 : o66 = { o66 with dst := some 66, op := .load 3 (.tmp 65), guard := some (56, false) })
    (e67 : o67 = { o67 with dst := some 67, op := .binOp .gtr 3 (.tmp 66) (.const (.int .i64 65535)) 3, guard := some (56, false) })
    (e68 : o68 = { o68 with dst := some 68, op := .pick (.tmp 64) (.const (.bool true)) (.tmp 67), guard := none })
    (hg10 : (ops[2]?).bind (·.dst) = some 10)
    (hg14 : (ops[6]?).bind (·.dst) = some 14)
    (hg19 : (ops[11]?).bind (·.dst) = some 19)
    (hg24 : (ops[16]?).bind (·.dst) = some 24)
    (hg29 : (ops[21]?).bind (·.dst) = some 29)
    (hg34 : (ops[26]?).bind (·.dst) = some 34)
    (hg39 : (ops[31]?).bind (·.dst) = some 39)
    (hg44 : (ops[36]?).bind (·.dst) = some 44)
    (hg49 : (ops[41]?).bind (·.dst) = some 49)
    (hg54 : (ops[46]?).bind (·.dst) = some 54)
    (hg59 : (ops[51]?).bind (·.dst) = some 59)
    (hg64 : (ops[56]?).bind (·.dst) = some 64)
    (hN : 69 ≤ a0.tmps.size)
    (i1 : a0.tmps[1]? = some (.pointer (some ⟨A, 0, none⟩)))
    (i3 : a0.tmps[3]? = some (.int .i64 K))
    (hM : ∀ w, Below w0.heap.size w0 w → MsgAt w A F (.slice ia ni ic) (.slice la nl lc) (.slice da dl dc))
    (h67 : decide (65535 < (F 9)) = q67) (h62 : decide ((F 9) < 0) = q62) (h57 : decide (9 < (F 8)) = q57) (h52 : decide ((F 8) < 0) = q52) (h47 : decide (1048576 < (F 7)) = q47) (h42 : decide ((F 7) < 0) = q42) (h37 : decide (8 ≤ (F 5)) = q37) (h32 : decide ((F 5) < 0) = q32) (h22 : decide (12 ≤ (F 1)) = q22) (h17 : decide ((F 1) < 0) = q17) (h9 : decide (K < 1) = q9) (h12 : decide (14 < K) = q12)
    (law26 : ∀ w, Below w0.heap.size w0 w → Calls Try.prog 37 #[.agg (msgL F (.slice ia ni ic) (.slice la nl lc) (.slice da dl dc)).toArray] w fun e w' => e = .returned (.bool q26) ∧ Below w.heap.size w w')
    (h : ∀ a' w , Below w0.heap.size w0 w → Fr 8 69 a0 a' → a'.tmps[68]? = some (.bool (((((((((((((q9 || q12) || q17) || q22) || !q26) || q32) || q37) || q42) || q47) || q52) || q57) || q62) || q67))) → wpList Try.prog ops Q rest a' w) :
    wpList Try.prog ops Q (o8 :: o9 :: o10 :: o11 :: o12 :: o13 :: o14 :: o15 :: o16 :: o17 :: o18 :: o19 :: o20 :: o21 :: o22 :: o23 :: o24 :: o25 :: o26 :: o27 :: o28 :: o29 :: o30 :: o31 :: o32 :: o33 :: o34 :: o35 :: o36 :: o37 :: o38 :: o39 :: o40 :: o41 :: o42 :: o43 :: o44 :: o45 :: o46 :: o47 :: o48 :: o49 :: o50 :: o51 :: o52 :: o53 :: o54 :: o55 :: o56 :: o57 :: o58 :: o59 :: o60 :: o61 :: o62 :: o63 :: o64 :: o65 :: o66 :: o67 :: o68 :: rest) a0 w0 := by
  have g8 : o8.guard = none := by rw [e8]
  have d8 : o8.dst = some 8 := by rw [e8]
  have g9 : o9.guard = none := by rw [e9]
  have d9 : o9.dst = some 9 := by rw [e9]
  have g10 : o10.guard = none := by rw [e10]
  have d10 : o10.dst = some 10 := by rw [e10]
  have g11 : o11.guard = some (2, false) := by rw [e11]
  have d11 : o11.dst = some 11 := by rw [e11]
  have g12 : o12.guard = some (2, false) := by rw [e12]
  have d12 : o12.dst = some 12 := by rw [e12]
  have g13 : o13.guard = none := by rw [e13]
  have d13 : o13.dst = some 13 := by rw [e13]
  have g14 : o14.guard = none := by rw [e14]
  have d14 : o14.dst = some 14 := by rw [e14]
  have g15 : o15.guard = some (6, false) := by rw [e15]
  have d15 : o15.dst = some 15 := by rw [e15]
  have g16 : o16.guard = some (6, false) := by rw [e16]
  have d16 : o16.dst = some 16 := by rw [e16]
  have g17 : o17.guard = some (6, false) := by rw [e17]
  have d17 : o17.dst = some 17 := by rw [e17]
  have g18 : o18.guard = none := by rw [e18]
  have d18 : o18.dst = some 18 := by rw [e18]
  have g19 : o19.guard = none := by rw [e19]
  have d19 : o19.dst = some 19 := by rw [e19]
  have g20 : o20.guard = some (11, false) := by rw [e20]
  have d20 : o20.dst = some 20 := by rw [e20]
  have g21 : o21.guard = some (11, false) := by rw [e21]
  have d21 : o21.dst = some 21 := by rw [e21]
  have g22 : o22.guard = some (11, false) := by rw [e22]
  have d22 : o22.dst = some 22 := by rw [e22]
  have g23 : o23.guard = none := by rw [e23]
  have d23 : o23.dst = some 23 := by rw [e23]
  have g24 : o24.guard = none := by rw [e24]
  have d24 : o24.dst = some 24 := by rw [e24]
  have g25 : o25.guard = some (16, false) := by rw [e25]
  have d25 : o25.dst = some 25 := by rw [e25]
  have g26 : o26.guard = some (16, false) := by rw [e26]
  have d26 : o26.dst = some 26 := by rw [e26]
  have g27 : o27.guard = some (16, false) := by rw [e27]
  have d27 : o27.dst = some 27 := by rw [e27]
  have g28 : o28.guard = none := by rw [e28]
  have d28 : o28.dst = some 28 := by rw [e28]
  have g29 : o29.guard = none := by rw [e29]
  have d29 : o29.dst = some 29 := by rw [e29]
  have g30 : o30.guard = some (21, false) := by rw [e30]
  have d30 : o30.dst = some 30 := by rw [e30]
  have g31 : o31.guard = some (21, false) := by rw [e31]
  have d31 : o31.dst = some 31 := by rw [e31]
  have g32 : o32.guard = some (21, false) := by rw [e32]
  have d32 : o32.dst = some 32 := by rw [e32]
  have g33 : o33.guard = none := by rw [e33]
  have d33 : o33.dst = some 33 := by rw [e33]
  have g34 : o34.guard = none := by rw [e34]
  have d34 : o34.dst = some 34 := by rw [e34]
  have g35 : o35.guard = some (26, false) := by rw [e35]
  have d35 : o35.dst = some 35 := by rw [e35]
  have g36 : o36.guard = some (26, false) := by rw [e36]
  have d36 : o36.dst = some 36 := by rw [e36]
  have g37 : o37.guard = some (26, false) := by rw [e37]
  have d37 : o37.dst = some 37 := by rw [e37]
  have g38 : o38.guard = none := by rw [e38]
  have d38 : o38.dst = some 38 := by rw [e38]
  have g39 : o39.guard = none := by rw [e39]
  have d39 : o39.dst = some 39 := by rw [e39]
  have g40 : o40.guard = some (31, false) := by rw [e40]
  have d40 : o40.dst = some 40 := by rw [e40]
  have g41 : o41.guard = some (31, false) := by rw [e41]
  have d41 : o41.dst = some 41 := by rw [e41]
  have g42 : o42.guard = some (31, false) := by rw [e42]
  have d42 : o42.dst = some 42 := by rw [e42]
  have g43 : o43.guard = none := by rw [e43]
  have d43 : o43.dst = some 43 := by rw [e43]
  have g44 : o44.guard = none := by rw [e44]
  have d44 : o44.dst = some 44 := by rw [e44]
  have g45 : o45.guard = some (36, false) := by rw [e45]
  have d45 : o45.dst = some 45 := by rw [e45]
  have g46 : o46.guard = some (36, false) := by rw [e46]
  have d46 : o46.dst = some 46 := by rw [e46]
  have g47 : o47.guard = some (36, false) := by rw [e47]
  have d47 : o47.dst = some 47 := by rw [e47]
  have g48 : o48.guard = none := by rw [e48]
  have d48 : o48.dst = some 48 := by rw [e48]
  have g49 : o49.guard = none := by rw [e49]
  have d49 : o49.dst = some 49 := by rw [e49]
  have g50 : o50.guard = some (41, false) := by rw [e50]
  have d50 : o50.dst = some 50 := by rw [e50]
  have g51 : o51.guard = some (41, false) := by rw [e51]
  have d51 : o51.dst = some 51 := by rw [e51]
  have g52 : o52.guard = some (41, false) := by rw [e52]
  have d52 : o52.dst = some 52 := by rw [e52]
  have g53 : o53.guard = none := by rw [e53]
  have d53 : o53.dst = some 53 := by rw [e53]
  have g54 : o54.guard = none := by rw [e54]
  have d54 : o54.dst = some 54 := by rw [e54]
  have g55 : o55.guard = some (46, false) := by rw [e55]
  have d55 : o55.dst = some 55 := by rw [e55]
  have g56 : o56.guard = some (46, false) := by rw [e56]
  have d56 : o56.dst = some 56 := by rw [e56]
  have g57 : o57.guard = some (46, false) := by rw [e57]
  have d57 : o57.dst = some 57 := by rw [e57]
  have g58 : o58.guard = none := by rw [e58]
  have d58 : o58.dst = some 58 := by rw [e58]
  have g59 : o59.guard = none := by rw [e59]
  have d59 : o59.dst = some 59 := by rw [e59]
  have g60 : o60.guard = some (51, false) := by rw [e60]
  have d60 : o60.dst = some 60 := by rw [e60]
  have g61 : o61.guard = some (51, false) := by rw [e61]
  have d61 : o61.dst = some 61 := by rw [e61]
  have g62 : o62.guard = some (51, false) := by rw [e62]
  have d62 : o62.dst = some 62 := by rw [e62]
  have g63 : o63.guard = none := by rw [e63]
  have d63 : o63.dst = some 63 := by rw [e63]
  have g64 : o64.guard = none := by rw [e64]
  have d64 : o64.dst = some 64 := by rw [e64]
  have g65 : o65.guard = some (56, false) := by rw [e65]
  have d65 : o65.dst = some 65 := by rw [e65]
  have g66 : o66.guard = some (56, false) := by rw [e66]
  have d66 : o66.dst = some 66 := by rw [e66]
  have g67 : o67.guard = some (56, false) := by rw [e67]
  have d67 : o67.dst = some 67 := by rw [e67]
  have g68 : o68.guard = none := by rw [e68]
  have d68 : o68.dst = some 68 := by rw [e68]
  have seg11 : ∀ a1 w, Below w0.heap.size w0 w → Fr 8 69 a0 a1 → a1.tmps[63]? = some (.bool ((((((((((((q9 || q12) || q17) || q22) || !q26) || q32) || q37) || q42) || q47) || q52) || q57) || q62))) → wpList Try.prog ops Q (o64 :: o65 :: o66 :: o67 :: o68 :: rest) a1 w := by
    intro a1 w hW hF s63
    refine ls (v := .bool ((((((((((((q9 || q12) || q17) || q22) || !q26) || q32) || q37) || q42) || q47) || q52) || q57) || q62))) (wants0 g64) (run_mv (by rw [e64]) (Sl_eval s63)) ?_
    rw [d64]
    have s64 := sl_same (v := .bool ((((((((((((q9 || q12) || q17) || q22) || !q26) || q32) || q37) || q42) || q47) || q52) || q57) || q62))) (fr_lt hF hN (show 64 < 69 by decide))
    replace hF := hF.put 64 (.bool ((((((((((((q9 || q12) || q17) || q22) || !q26) || q32) || q37) || q42) || q47) || q52) || q57) || q62))) (by decide)
    generalize a1.put (some 64) (.bool ((((((((((((q9 || q12) || q17) || q22) || !q26) || q32) || q37) || q42) || q47) || q52) || q57) || q62))) = b1 at *
    rcases hb65 : (((((((((((q9 || q12) || q17) || q22) || !q26) || q32) || q37) || q42) || q47) || q52) || q57) || q62) with _ | _
    · have s64x65 := s64
      rw [hb65] at s64x65
      refine ls (v := .pointer (some ⟨A, 9, none⟩)) (wants g65 hg64 s64x65) (run_fa (by rw [e65]) (Sl_eval ((hF.k 1 (by decide)).trans i1)) (by decide)) ?_
      rw [d65]
      have s65 := sl_same (v := .pointer (some ⟨A, 9, none⟩)) (fr_lt hF hN (show 65 < 69 by decide))
      replace s64x65 := sl_other (d := 65) (u := .pointer (some ⟨A, 9, none⟩)) s64x65 (by decide)
      replace hF := hF.put 65 (.pointer (some ⟨A, 9, none⟩)) (by decide)
      generalize b1.put (some 65) (.pointer (some ⟨A, 9, none⟩)) = b2 at *
      refine ls (v := .int .i64 ((F 9))) (wants g66 hg64 s64x65) (run_ldi (by rw [e66]) (Sl_eval s65) (hM _ hW).c9 (Or.inl ⟨rfl, rfl⟩)) ?_
      rw [d66]
      have s66 := sl_same (v := .int .i64 ((F 9))) (fr_lt hF hN (show 66 < 69 by decide))
      replace s64x65 := sl_other (d := 66) (u := .int .i64 ((F 9))) s64x65 (by decide)
      replace hF := hF.put 66 (.int .i64 ((F 9))) (by decide)
      generalize b2.put (some 66) (.int .i64 ((F 9))) = b3 at *
      refine ls (v := .bool q67) (wants g67 hg64 s64x65) ((run_gtr (by rw [e67]) (Sl_eval s66) (BigFrame.eval_const _ _) (Or.inl ⟨rfl, rfl⟩)).trans (by rw [h67])) ?_
      rw [d67]
      have s67 := sl_same (v := .bool q67) (fr_lt hF hN (show 67 < 69 by decide))
      replace s64x65 := sl_other (d := 67) (u := .bool q67) s64x65 (by decide)
      replace hF := hF.put 67 (.bool q67) (by decide)
      generalize b3.put (some 67) (.bool q67) = b4 at *
      refine ls (v := .bool q67) (wants0 g68) (run_pkF (by rw [e68]) (Sl_eval s64x65) (Sl_eval s67)) ?_
      rw [d68]
      have s68 := sl_same (v := .bool q67) (fr_lt hF hN (show 68 < 69 by decide))
      replace hF := hF.put 68 (.bool q67) (by decide)
      generalize b4.put (some 68) (.bool q67) = b5 at *
      exact h _ _ hW hF (s68.trans (by simp [hb65]))
    · have s64x65 := s64
      rw [hb65] at s64x65
      refine wpList_skip (wantsNo g65 hg64 s64x65 (by decide)) ?_
      rw [d65]
      have s65 := sl_same (v := undef) (fr_lt hF hN (show 65 < 69 by decide))
      replace s64x65 := sl_other (d := 65) (u := undef) s64x65 (by decide)
      replace hF := hF.put 65 (undef) (by decide)
      generalize b1.put (some 65) (undef) = b6 at *
      refine wpList_skip (wantsNo g66 hg64 s64x65 (by decide)) ?_
      rw [d66]
      have s66 := sl_same (v := undef) (fr_lt hF hN (show 66 < 69 by decide))
      replace s64x65 := sl_other (d := 66) (u := undef) s64x65 (by decide)
      replace hF := hF.put 66 (undef) (by decide)
      generalize b6.put (some 66) (undef) = b7 at *
      refine wpList_skip (wantsNo g67 hg64 s64x65 (by decide)) ?_
      rw [d67]
      have s67 := sl_same (v := undef) (fr_lt hF hN (show 67 < 69 by decide))
      replace s64x65 := sl_other (d := 67) (u := undef) s64x65 (by decide)
      replace hF := hF.put 67 (undef) (by decide)
      generalize b7.put (some 67) (undef) = b8 at *
      refine ls (v := .bool true) (wants0 g68) (run_pkT (by rw [e68]) (Sl_eval s64x65) (BigFrame.eval_const _ _)) ?_
      rw [d68]
      have s68 := sl_same (v := .bool true) (fr_lt hF hN (show 68 < 69 by decide))
      replace hF := hF.put 68 (.bool true) (by decide)
      generalize b8.put (some 68) (.bool true) = b9 at *
      exact h _ _ hW hF (s68.trans (by simp [hb65]))
  have seg10 : ∀ a1 w, Below w0.heap.size w0 w → Fr 8 69 a0 a1 → a1.tmps[58]? = some (.bool (((((((((((q9 || q12) || q17) || q22) || !q26) || q32) || q37) || q42) || q47) || q52) || q57))) → wpList Try.prog ops Q (o59 :: o60 :: o61 :: o62 :: o63 :: o64 :: o65 :: o66 :: o67 :: o68 :: rest) a1 w := by
    intro a1 w hW hF s58
    refine ls (v := .bool (((((((((((q9 || q12) || q17) || q22) || !q26) || q32) || q37) || q42) || q47) || q52) || q57))) (wants0 g59) (run_mv (by rw [e59]) (Sl_eval s58)) ?_
    rw [d59]
    have s59 := sl_same (v := .bool (((((((((((q9 || q12) || q17) || q22) || !q26) || q32) || q37) || q42) || q47) || q52) || q57))) (fr_lt hF hN (show 59 < 69 by decide))
    replace hF := hF.put 59 (.bool (((((((((((q9 || q12) || q17) || q22) || !q26) || q32) || q37) || q42) || q47) || q52) || q57))) (by decide)
    generalize a1.put (some 59) (.bool (((((((((((q9 || q12) || q17) || q22) || !q26) || q32) || q37) || q42) || q47) || q52) || q57))) = b1 at *
    rcases hb60 : ((((((((((q9 || q12) || q17) || q22) || !q26) || q32) || q37) || q42) || q47) || q52) || q57) with _ | _
    · have s59x60 := s59
      rw [hb60] at s59x60
      refine ls (v := .pointer (some ⟨A, 9, none⟩)) (wants g60 hg59 s59x60) (run_fa (by rw [e60]) (Sl_eval ((hF.k 1 (by decide)).trans i1)) (by decide)) ?_
      rw [d60]
      have s60 := sl_same (v := .pointer (some ⟨A, 9, none⟩)) (fr_lt hF hN (show 60 < 69 by decide))
      replace s59x60 := sl_other (d := 60) (u := .pointer (some ⟨A, 9, none⟩)) s59x60 (by decide)
      replace hF := hF.put 60 (.pointer (some ⟨A, 9, none⟩)) (by decide)
      generalize b1.put (some 60) (.pointer (some ⟨A, 9, none⟩)) = b2 at *
      refine ls (v := .int .i64 ((F 9))) (wants g61 hg59 s59x60) (run_ldi (by rw [e61]) (Sl_eval s60) (hM _ hW).c9 (Or.inl ⟨rfl, rfl⟩)) ?_
      rw [d61]
      have s61 := sl_same (v := .int .i64 ((F 9))) (fr_lt hF hN (show 61 < 69 by decide))
      replace s59x60 := sl_other (d := 61) (u := .int .i64 ((F 9))) s59x60 (by decide)
      replace hF := hF.put 61 (.int .i64 ((F 9))) (by decide)
      generalize b2.put (some 61) (.int .i64 ((F 9))) = b3 at *
      refine ls (v := .bool q62) (wants g62 hg59 s59x60) ((run_lss (by rw [e62]) (Sl_eval s61) (BigFrame.eval_const _ _) (Or.inl ⟨rfl, rfl⟩)).trans (by rw [h62])) ?_
      rw [d62]
      have s62 := sl_same (v := .bool q62) (fr_lt hF hN (show 62 < 69 by decide))
      replace s59x60 := sl_other (d := 62) (u := .bool q62) s59x60 (by decide)
      replace hF := hF.put 62 (.bool q62) (by decide)
      generalize b3.put (some 62) (.bool q62) = b4 at *
      refine ls (v := .bool q62) (wants0 g63) (run_pkF (by rw [e63]) (Sl_eval s59x60) (Sl_eval s62)) ?_
      rw [d63]
      have s63 := sl_same (v := .bool q62) (fr_lt hF hN (show 63 < 69 by decide))
      replace hF := hF.put 63 (.bool q62) (by decide)
      generalize b4.put (some 63) (.bool q62) = b5 at *
      exact seg11 _ _ hW hF (s63.trans (by simp [hb60]))
    · have s59x60 := s59
      rw [hb60] at s59x60
      refine wpList_skip (wantsNo g60 hg59 s59x60 (by decide)) ?_
      rw [d60]
      have s60 := sl_same (v := undef) (fr_lt hF hN (show 60 < 69 by decide))
      replace s59x60 := sl_other (d := 60) (u := undef) s59x60 (by decide)
      replace hF := hF.put 60 (undef) (by decide)
      generalize b1.put (some 60) (undef) = b6 at *
      refine wpList_skip (wantsNo g61 hg59 s59x60 (by decide)) ?_
      rw [d61]
      have s61 := sl_same (v := undef) (fr_lt hF hN (show 61 < 69 by decide))
      replace s59x60 := sl_other (d := 61) (u := undef) s59x60 (by decide)
      replace hF := hF.put 61 (undef) (by decide)
      generalize b6.put (some 61) (undef) = b7 at *
      refine wpList_skip (wantsNo g62 hg59 s59x60 (by decide)) ?_
      rw [d62]
      have s62 := sl_same (v := undef) (fr_lt hF hN (show 62 < 69 by decide))
      replace s59x60 := sl_other (d := 62) (u := undef) s59x60 (by decide)
      replace hF := hF.put 62 (undef) (by decide)
      generalize b7.put (some 62) (undef) = b8 at *
      refine ls (v := .bool true) (wants0 g63) (run_pkT (by rw [e63]) (Sl_eval s59x60) (BigFrame.eval_const _ _)) ?_
      rw [d63]
      have s63 := sl_same (v := .bool true) (fr_lt hF hN (show 63 < 69 by decide))
      replace hF := hF.put 63 (.bool true) (by decide)
      generalize b8.put (some 63) (.bool true) = b9 at *
      exact seg11 _ _ hW hF (s63.trans (by simp [hb60]))
  have seg9 : ∀ a1 w, Below w0.heap.size w0 w → Fr 8 69 a0 a1 → a1.tmps[53]? = some (.bool ((((((((((q9 || q12) || q17) || q22) || !q26) || q32) || q37) || q42) || q47) || q52))) → wpList Try.prog ops Q (o54 :: o55 :: o56 :: o57 :: o58 :: o59 :: o60 :: o61 :: o62 :: o63 :: o64 :: o65 :: o66 :: o67 :: o68 :: rest) a1 w := by
    intro a1 w hW hF s53
    refine ls (v := .bool ((((((((((q9 || q12) || q17) || q22) || !q26) || q32) || q37) || q42) || q47) || q52))) (wants0 g54) (run_mv (by rw [e54]) (Sl_eval s53)) ?_
    rw [d54]
    have s54 := sl_same (v := .bool ((((((((((q9 || q12) || q17) || q22) || !q26) || q32) || q37) || q42) || q47) || q52))) (fr_lt hF hN (show 54 < 69 by decide))
    replace hF := hF.put 54 (.bool ((((((((((q9 || q12) || q17) || q22) || !q26) || q32) || q37) || q42) || q47) || q52))) (by decide)
    generalize a1.put (some 54) (.bool ((((((((((q9 || q12) || q17) || q22) || !q26) || q32) || q37) || q42) || q47) || q52))) = b1 at *
    rcases hb55 : (((((((((q9 || q12) || q17) || q22) || !q26) || q32) || q37) || q42) || q47) || q52) with _ | _
    · have s54x55 := s54
      rw [hb55] at s54x55
      refine ls (v := .pointer (some ⟨A, 8, none⟩)) (wants g55 hg54 s54x55) (run_fa (by rw [e55]) (Sl_eval ((hF.k 1 (by decide)).trans i1)) (by decide)) ?_
      rw [d55]
      have s55 := sl_same (v := .pointer (some ⟨A, 8, none⟩)) (fr_lt hF hN (show 55 < 69 by decide))
      replace s54x55 := sl_other (d := 55) (u := .pointer (some ⟨A, 8, none⟩)) s54x55 (by decide)
      replace hF := hF.put 55 (.pointer (some ⟨A, 8, none⟩)) (by decide)
      generalize b1.put (some 55) (.pointer (some ⟨A, 8, none⟩)) = b2 at *
      refine ls (v := .int .i64 ((F 8))) (wants g56 hg54 s54x55) (run_ldi (by rw [e56]) (Sl_eval s55) (hM _ hW).c8 (Or.inl ⟨rfl, rfl⟩)) ?_
      rw [d56]
      have s56 := sl_same (v := .int .i64 ((F 8))) (fr_lt hF hN (show 56 < 69 by decide))
      replace s54x55 := sl_other (d := 56) (u := .int .i64 ((F 8))) s54x55 (by decide)
      replace hF := hF.put 56 (.int .i64 ((F 8))) (by decide)
      generalize b2.put (some 56) (.int .i64 ((F 8))) = b3 at *
      refine ls (v := .bool q57) (wants g57 hg54 s54x55) ((run_gtr (by rw [e57]) (Sl_eval s56) (BigFrame.eval_const _ _) (Or.inl ⟨rfl, rfl⟩)).trans (by rw [h57])) ?_
      rw [d57]
      have s57 := sl_same (v := .bool q57) (fr_lt hF hN (show 57 < 69 by decide))
      replace s54x55 := sl_other (d := 57) (u := .bool q57) s54x55 (by decide)
      replace hF := hF.put 57 (.bool q57) (by decide)
      generalize b3.put (some 57) (.bool q57) = b4 at *
      refine ls (v := .bool q57) (wants0 g58) (run_pkF (by rw [e58]) (Sl_eval s54x55) (Sl_eval s57)) ?_
      rw [d58]
      have s58 := sl_same (v := .bool q57) (fr_lt hF hN (show 58 < 69 by decide))
      replace hF := hF.put 58 (.bool q57) (by decide)
      generalize b4.put (some 58) (.bool q57) = b5 at *
      exact seg10 _ _ hW hF (s58.trans (by simp [hb55]))
    · have s54x55 := s54
      rw [hb55] at s54x55
      refine wpList_skip (wantsNo g55 hg54 s54x55 (by decide)) ?_
      rw [d55]
      have s55 := sl_same (v := undef) (fr_lt hF hN (show 55 < 69 by decide))
      replace s54x55 := sl_other (d := 55) (u := undef) s54x55 (by decide)
      replace hF := hF.put 55 (undef) (by decide)
      generalize b1.put (some 55) (undef) = b6 at *
      refine wpList_skip (wantsNo g56 hg54 s54x55 (by decide)) ?_
      rw [d56]
      have s56 := sl_same (v := undef) (fr_lt hF hN (show 56 < 69 by decide))
      replace s54x55 := sl_other (d := 56) (u := undef) s54x55 (by decide)
      replace hF := hF.put 56 (undef) (by decide)
      generalize b6.put (some 56) (undef) = b7 at *
      refine wpList_skip (wantsNo g57 hg54 s54x55 (by decide)) ?_
      rw [d57]
      have s57 := sl_same (v := undef) (fr_lt hF hN (show 57 < 69 by decide))
      replace s54x55 := sl_other (d := 57) (u := undef) s54x55 (by decide)
      replace hF := hF.put 57 (undef) (by decide)
      generalize b7.put (some 57) (undef) = b8 at *
      refine ls (v := .bool true) (wants0 g58) (run_pkT (by rw [e58]) (Sl_eval s54x55) (BigFrame.eval_const _ _)) ?_
      rw [d58]
      have s58 := sl_same (v := .bool true) (fr_lt hF hN (show 58 < 69 by decide))
      replace hF := hF.put 58 (.bool true) (by decide)
      generalize b8.put (some 58) (.bool true) = b9 at *
      exact seg10 _ _ hW hF (s58.trans (by simp [hb55]))
  have seg8 : ∀ a1 w, Below w0.heap.size w0 w → Fr 8 69 a0 a1 → a1.tmps[48]? = some (.bool (((((((((q9 || q12) || q17) || q22) || !q26) || q32) || q37) || q42) || q47))) → wpList Try.prog ops Q (o49 :: o50 :: o51 :: o52 :: o53 :: o54 :: o55 :: o56 :: o57 :: o58 :: o59 :: o60 :: o61 :: o62 :: o63 :: o64 :: o65 :: o66 :: o67 :: o68 :: rest) a1 w := by
    intro a1 w hW hF s48
    refine ls (v := .bool (((((((((q9 || q12) || q17) || q22) || !q26) || q32) || q37) || q42) || q47))) (wants0 g49) (run_mv (by rw [e49]) (Sl_eval s48)) ?_
    rw [d49]
    have s49 := sl_same (v := .bool (((((((((q9 || q12) || q17) || q22) || !q26) || q32) || q37) || q42) || q47))) (fr_lt hF hN (show 49 < 69 by decide))
    replace hF := hF.put 49 (.bool (((((((((q9 || q12) || q17) || q22) || !q26) || q32) || q37) || q42) || q47))) (by decide)
    generalize a1.put (some 49) (.bool (((((((((q9 || q12) || q17) || q22) || !q26) || q32) || q37) || q42) || q47))) = b1 at *
    rcases hb50 : ((((((((q9 || q12) || q17) || q22) || !q26) || q32) || q37) || q42) || q47) with _ | _
    · have s49x50 := s49
      rw [hb50] at s49x50
      refine ls (v := .pointer (some ⟨A, 8, none⟩)) (wants g50 hg49 s49x50) (run_fa (by rw [e50]) (Sl_eval ((hF.k 1 (by decide)).trans i1)) (by decide)) ?_
      rw [d50]
      have s50 := sl_same (v := .pointer (some ⟨A, 8, none⟩)) (fr_lt hF hN (show 50 < 69 by decide))
      replace s49x50 := sl_other (d := 50) (u := .pointer (some ⟨A, 8, none⟩)) s49x50 (by decide)
      replace hF := hF.put 50 (.pointer (some ⟨A, 8, none⟩)) (by decide)
      generalize b1.put (some 50) (.pointer (some ⟨A, 8, none⟩)) = b2 at *
      refine ls (v := .int .i64 ((F 8))) (wants g51 hg49 s49x50) (run_ldi (by rw [e51]) (Sl_eval s50) (hM _ hW).c8 (Or.inl ⟨rfl, rfl⟩)) ?_
      rw [d51]
      have s51 := sl_same (v := .int .i64 ((F 8))) (fr_lt hF hN (show 51 < 69 by decide))
      replace s49x50 := sl_other (d := 51) (u := .int .i64 ((F 8))) s49x50 (by decide)
      replace hF := hF.put 51 (.int .i64 ((F 8))) (by decide)
      generalize b2.put (some 51) (.int .i64 ((F 8))) = b3 at *
      refine ls (v := .bool q52) (wants g52 hg49 s49x50) ((run_lss (by rw [e52]) (Sl_eval s51) (BigFrame.eval_const _ _) (Or.inl ⟨rfl, rfl⟩)).trans (by rw [h52])) ?_
      rw [d52]
      have s52 := sl_same (v := .bool q52) (fr_lt hF hN (show 52 < 69 by decide))
      replace s49x50 := sl_other (d := 52) (u := .bool q52) s49x50 (by decide)
      replace hF := hF.put 52 (.bool q52) (by decide)
      generalize b3.put (some 52) (.bool q52) = b4 at *
      refine ls (v := .bool q52) (wants0 g53) (run_pkF (by rw [e53]) (Sl_eval s49x50) (Sl_eval s52)) ?_
      rw [d53]
      have s53 := sl_same (v := .bool q52) (fr_lt hF hN (show 53 < 69 by decide))
      replace hF := hF.put 53 (.bool q52) (by decide)
      generalize b4.put (some 53) (.bool q52) = b5 at *
      exact seg9 _ _ hW hF (s53.trans (by simp [hb50]))
    · have s49x50 := s49
      rw [hb50] at s49x50
      refine wpList_skip (wantsNo g50 hg49 s49x50 (by decide)) ?_
      rw [d50]
      have s50 := sl_same (v := undef) (fr_lt hF hN (show 50 < 69 by decide))
      replace s49x50 := sl_other (d := 50) (u := undef) s49x50 (by decide)
      replace hF := hF.put 50 (undef) (by decide)
      generalize b1.put (some 50) (undef) = b6 at *
      refine wpList_skip (wantsNo g51 hg49 s49x50 (by decide)) ?_
      rw [d51]
      have s51 := sl_same (v := undef) (fr_lt hF hN (show 51 < 69 by decide))
      replace s49x50 := sl_other (d := 51) (u := undef) s49x50 (by decide)
      replace hF := hF.put 51 (undef) (by decide)
      generalize b6.put (some 51) (undef) = b7 at *
      refine wpList_skip (wantsNo g52 hg49 s49x50 (by decide)) ?_
      rw [d52]
      have s52 := sl_same (v := undef) (fr_lt hF hN (show 52 < 69 by decide))
      replace s49x50 := sl_other (d := 52) (u := undef) s49x50 (by decide)
      replace hF := hF.put 52 (undef) (by decide)
      generalize b7.put (some 52) (undef) = b8 at *
      refine ls (v := .bool true) (wants0 g53) (run_pkT (by rw [e53]) (Sl_eval s49x50) (BigFrame.eval_const _ _)) ?_
      rw [d53]
      have s53 := sl_same (v := .bool true) (fr_lt hF hN (show 53 < 69 by decide))
      replace hF := hF.put 53 (.bool true) (by decide)
      generalize b8.put (some 53) (.bool true) = b9 at *
      exact seg9 _ _ hW hF (s53.trans (by simp [hb50]))
  have seg7 : ∀ a1 w, Below w0.heap.size w0 w → Fr 8 69 a0 a1 → a1.tmps[43]? = some (.bool ((((((((q9 || q12) || q17) || q22) || !q26) || q32) || q37) || q42))) → wpList Try.prog ops Q (o44 :: o45 :: o46 :: o47 :: o48 :: o49 :: o50 :: o51 :: o52 :: o53 :: o54 :: o55 :: o56 :: o57 :: o58 :: o59 :: o60 :: o61 :: o62 :: o63 :: o64 :: o65 :: o66 :: o67 :: o68 :: rest) a1 w := by
    intro a1 w hW hF s43
    refine ls (v := .bool ((((((((q9 || q12) || q17) || q22) || !q26) || q32) || q37) || q42))) (wants0 g44) (run_mv (by rw [e44]) (Sl_eval s43)) ?_
    rw [d44]
    have s44 := sl_same (v := .bool ((((((((q9 || q12) || q17) || q22) || !q26) || q32) || q37) || q42))) (fr_lt hF hN (show 44 < 69 by decide))
    replace hF := hF.put 44 (.bool ((((((((q9 || q12) || q17) || q22) || !q26) || q32) || q37) || q42))) (by decide)
    generalize a1.put (some 44) (.bool ((((((((q9 || q12) || q17) || q22) || !q26) || q32) || q37) || q42))) = b1 at *
    rcases hb45 : (((((((q9 || q12) || q17) || q22) || !q26) || q32) || q37) || q42) with _ | _
    · have s44x45 := s44
      rw [hb45] at s44x45
      refine ls (v := .pointer (some ⟨A, 7, none⟩)) (wants g45 hg44 s44x45) (run_fa (by rw [e45]) (Sl_eval ((hF.k 1 (by decide)).trans i1)) (by decide)) ?_
      rw [d45]
      have s45 := sl_same (v := .pointer (some ⟨A, 7, none⟩)) (fr_lt hF hN (show 45 < 69 by decide))
      replace s44x45 := sl_other (d := 45) (u := .pointer (some ⟨A, 7, none⟩)) s44x45 (by decide)
      replace hF := hF.put 45 (.pointer (some ⟨A, 7, none⟩)) (by decide)
      generalize b1.put (some 45) (.pointer (some ⟨A, 7, none⟩)) = b2 at *
      refine ls (v := .int .i64 ((F 7))) (wants g46 hg44 s44x45) (run_ldi (by rw [e46]) (Sl_eval s45) (hM _ hW).c7 (Or.inl ⟨rfl, rfl⟩)) ?_
      rw [d46]
      have s46 := sl_same (v := .int .i64 ((F 7))) (fr_lt hF hN (show 46 < 69 by decide))
      replace s44x45 := sl_other (d := 46) (u := .int .i64 ((F 7))) s44x45 (by decide)
      replace hF := hF.put 46 (.int .i64 ((F 7))) (by decide)
      generalize b2.put (some 46) (.int .i64 ((F 7))) = b3 at *
      refine ls (v := .bool q47) (wants g47 hg44 s44x45) ((run_gtr (by rw [e47]) (Sl_eval s46) (BigFrame.eval_const _ _) (Or.inl ⟨rfl, rfl⟩)).trans (by rw [h47])) ?_
      rw [d47]
      have s47 := sl_same (v := .bool q47) (fr_lt hF hN (show 47 < 69 by decide))
      replace s44x45 := sl_other (d := 47) (u := .bool q47) s44x45 (by decide)
      replace hF := hF.put 47 (.bool q47) (by decide)
      generalize b3.put (some 47) (.bool q47) = b4 at *
      refine ls (v := .bool q47) (wants0 g48) (run_pkF (by rw [e48]) (Sl_eval s44x45) (Sl_eval s47)) ?_
      rw [d48]
      have s48 := sl_same (v := .bool q47) (fr_lt hF hN (show 48 < 69 by decide))
      replace hF := hF.put 48 (.bool q47) (by decide)
      generalize b4.put (some 48) (.bool q47) = b5 at *
      exact seg8 _ _ hW hF (s48.trans (by simp [hb45]))
    · have s44x45 := s44
      rw [hb45] at s44x45
      refine wpList_skip (wantsNo g45 hg44 s44x45 (by decide)) ?_
      rw [d45]
      have s45 := sl_same (v := undef) (fr_lt hF hN (show 45 < 69 by decide))
      replace s44x45 := sl_other (d := 45) (u := undef) s44x45 (by decide)
      replace hF := hF.put 45 (undef) (by decide)
      generalize b1.put (some 45) (undef) = b6 at *
      refine wpList_skip (wantsNo g46 hg44 s44x45 (by decide)) ?_
      rw [d46]
      have s46 := sl_same (v := undef) (fr_lt hF hN (show 46 < 69 by decide))
      replace s44x45 := sl_other (d := 46) (u := undef) s44x45 (by decide)
      replace hF := hF.put 46 (undef) (by decide)
      generalize b6.put (some 46) (undef) = b7 at *
      refine wpList_skip (wantsNo g47 hg44 s44x45 (by decide)) ?_
      rw [d47]
      have s47 := sl_same (v := undef) (fr_lt hF hN (show 47 < 69 by decide))
      replace s44x45 := sl_other (d := 47) (u := undef) s44x45 (by decide)
      replace hF := hF.put 47 (undef) (by decide)
      generalize b7.put (some 47) (undef) = b8 at *
      refine ls (v := .bool true) (wants0 g48) (run_pkT (by rw [e48]) (Sl_eval s44x45) (BigFrame.eval_const _ _)) ?_
      rw [d48]
      have s48 := sl_same (v := .bool true) (fr_lt hF hN (show 48 < 69 by decide))
      replace hF := hF.put 48 (.bool true) (by decide)
      generalize b8.put (some 48) (.bool true) = b9 at *
      exact seg8 _ _ hW hF (s48.trans (by simp [hb45]))
  have seg6 : ∀ a1 w, Below w0.heap.size w0 w → Fr 8 69 a0 a1 → a1.tmps[38]? = some (.bool (((((((q9 || q12) || q17) || q22) || !q26) || q32) || q37))) → wpList Try.prog ops Q (o39 :: o40 :: o41 :: o42 :: o43 :: o44 :: o45 :: o46 :: o47 :: o48 :: o49 :: o50 :: o51 :: o52 :: o53 :: o54 :: o55 :: o56 :: o57 :: o58 :: o59 :: o60 :: o61 :: o62 :: o63 :: o64 :: o65 :: o66 :: o67 :: o68 :: rest) a1 w := by
    intro a1 w hW hF s38
    refine ls (v := .bool (((((((q9 || q12) || q17) || q22) || !q26) || q32) || q37))) (wants0 g39) (run_mv (by rw [e39]) (Sl_eval s38)) ?_
    rw [d39]
    have s39 := sl_same (v := .bool (((((((q9 || q12) || q17) || q22) || !q26) || q32) || q37))) (fr_lt hF hN (show 39 < 69 by decide))
    replace hF := hF.put 39 (.bool (((((((q9 || q12) || q17) || q22) || !q26) || q32) || q37))) (by decide)
    generalize a1.put (some 39) (.bool (((((((q9 || q12) || q17) || q22) || !q26) || q32) || q37))) = b1 at *
    rcases hb40 : ((((((q9 || q12) || q17) || q22) || !q26) || q32) || q37) with _ | _
    · have s39x40 := s39
      rw [hb40] at s39x40
      refine ls (v := .pointer (some ⟨A, 7, none⟩)) (wants g40 hg39 s39x40) (run_fa (by rw [e40]) (Sl_eval ((hF.k 1 (by decide)).trans i1)) (by decide)) ?_
      rw [d40]
      have s40 := sl_same (v := .pointer (some ⟨A, 7, none⟩)) (fr_lt hF hN (show 40 < 69 by decide))
      replace s39x40 := sl_other (d := 40) (u := .pointer (some ⟨A, 7, none⟩)) s39x40 (by decide)
      replace hF := hF.put 40 (.pointer (some ⟨A, 7, none⟩)) (by decide)
      generalize b1.put (some 40) (.pointer (some ⟨A, 7, none⟩)) = b2 at *
      refine ls (v := .int .i64 ((F 7))) (wants g41 hg39 s39x40) (run_ldi (by rw [e41]) (Sl_eval s40) (hM _ hW).c7 (Or.inl ⟨rfl, rfl⟩)) ?_
      rw [d41]
      have s41 := sl_same (v := .int .i64 ((F 7))) (fr_lt hF hN (show 41 < 69 by decide))
      replace s39x40 := sl_other (d := 41) (u := .int .i64 ((F 7))) s39x40 (by decide)
      replace hF := hF.put 41 (.int .i64 ((F 7))) (by decide)
      generalize b2.put (some 41) (.int .i64 ((F 7))) = b3 at *
      refine ls (v := .bool q42) (wants g42 hg39 s39x40) ((run_lss (by rw [e42]) (Sl_eval s41) (BigFrame.eval_const _ _) (Or.inl ⟨rfl, rfl⟩)).trans (by rw [h42])) ?_
      rw [d42]
      have s42 := sl_same (v := .bool q42) (fr_lt hF hN (show 42 < 69 by decide))
      replace s39x40 := sl_other (d := 42) (u := .bool q42) s39x40 (by decide)
      replace hF := hF.put 42 (.bool q42) (by decide)
      generalize b3.put (some 42) (.bool q42) = b4 at *
      refine ls (v := .bool q42) (wants0 g43) (run_pkF (by rw [e43]) (Sl_eval s39x40) (Sl_eval s42)) ?_
      rw [d43]
      have s43 := sl_same (v := .bool q42) (fr_lt hF hN (show 43 < 69 by decide))
      replace hF := hF.put 43 (.bool q42) (by decide)
      generalize b4.put (some 43) (.bool q42) = b5 at *
      exact seg7 _ _ hW hF (s43.trans (by simp [hb40]))
    · have s39x40 := s39
      rw [hb40] at s39x40
      refine wpList_skip (wantsNo g40 hg39 s39x40 (by decide)) ?_
      rw [d40]
      have s40 := sl_same (v := undef) (fr_lt hF hN (show 40 < 69 by decide))
      replace s39x40 := sl_other (d := 40) (u := undef) s39x40 (by decide)
      replace hF := hF.put 40 (undef) (by decide)
      generalize b1.put (some 40) (undef) = b6 at *
      refine wpList_skip (wantsNo g41 hg39 s39x40 (by decide)) ?_
      rw [d41]
      have s41 := sl_same (v := undef) (fr_lt hF hN (show 41 < 69 by decide))
      replace s39x40 := sl_other (d := 41) (u := undef) s39x40 (by decide)
      replace hF := hF.put 41 (undef) (by decide)
      generalize b6.put (some 41) (undef) = b7 at *
      refine wpList_skip (wantsNo g42 hg39 s39x40 (by decide)) ?_
      rw [d42]
      have s42 := sl_same (v := undef) (fr_lt hF hN (show 42 < 69 by decide))
      replace s39x40 := sl_other (d := 42) (u := undef) s39x40 (by decide)
      replace hF := hF.put 42 (undef) (by decide)
      generalize b7.put (some 42) (undef) = b8 at *
      refine ls (v := .bool true) (wants0 g43) (run_pkT (by rw [e43]) (Sl_eval s39x40) (BigFrame.eval_const _ _)) ?_
      rw [d43]
      have s43 := sl_same (v := .bool true) (fr_lt hF hN (show 43 < 69 by decide))
      replace hF := hF.put 43 (.bool true) (by decide)
      generalize b8.put (some 43) (.bool true) = b9 at *
      exact seg7 _ _ hW hF (s43.trans (by simp [hb40]))
  have seg5 : ∀ a1 w, Below w0.heap.size w0 w → Fr 8 69 a0 a1 → a1.tmps[33]? = some (.bool ((((((q9 || q12) || q17) || q22) || !q26) || q32))) → wpList Try.prog ops Q (o34 :: o35 :: o36 :: o37 :: o38 :: o39 :: o40 :: o41 :: o42 :: o43 :: o44 :: o45 :: o46 :: o47 :: o48 :: o49 :: o50 :: o51 :: o52 :: o53 :: o54 :: o55 :: o56 :: o57 :: o58 :: o59 :: o60 :: o61 :: o62 :: o63 :: o64 :: o65 :: o66 :: o67 :: o68 :: rest) a1 w := by
    intro a1 w hW hF s33
    refine ls (v := .bool ((((((q9 || q12) || q17) || q22) || !q26) || q32))) (wants0 g34) (run_mv (by rw [e34]) (Sl_eval s33)) ?_
    rw [d34]
    have s34 := sl_same (v := .bool ((((((q9 || q12) || q17) || q22) || !q26) || q32))) (fr_lt hF hN (show 34 < 69 by decide))
    replace hF := hF.put 34 (.bool ((((((q9 || q12) || q17) || q22) || !q26) || q32))) (by decide)
    generalize a1.put (some 34) (.bool ((((((q9 || q12) || q17) || q22) || !q26) || q32))) = b1 at *
    rcases hb35 : (((((q9 || q12) || q17) || q22) || !q26) || q32) with _ | _
    · have s34x35 := s34
      rw [hb35] at s34x35
      refine ls (v := .pointer (some ⟨A, 5, none⟩)) (wants g35 hg34 s34x35) (run_fa (by rw [e35]) (Sl_eval ((hF.k 1 (by decide)).trans i1)) (by decide)) ?_
      rw [d35]
      have s35 := sl_same (v := .pointer (some ⟨A, 5, none⟩)) (fr_lt hF hN (show 35 < 69 by decide))
      replace s34x35 := sl_other (d := 35) (u := .pointer (some ⟨A, 5, none⟩)) s34x35 (by decide)
      replace hF := hF.put 35 (.pointer (some ⟨A, 5, none⟩)) (by decide)
      generalize b1.put (some 35) (.pointer (some ⟨A, 5, none⟩)) = b2 at *
      refine ls (v := .int .i64 ((F 5))) (wants g36 hg34 s34x35) (run_ldi (by rw [e36]) (Sl_eval s35) (hM _ hW).c5 (Or.inl ⟨rfl, rfl⟩)) ?_
      rw [d36]
      have s36 := sl_same (v := .int .i64 ((F 5))) (fr_lt hF hN (show 36 < 69 by decide))
      replace s34x35 := sl_other (d := 36) (u := .int .i64 ((F 5))) s34x35 (by decide)
      replace hF := hF.put 36 (.int .i64 ((F 5))) (by decide)
      generalize b2.put (some 36) (.int .i64 ((F 5))) = b3 at *
      refine ls (v := .bool q37) (wants g37 hg34 s34x35) ((run_geq (by rw [e37]) (Sl_eval s36) (BigFrame.eval_const _ _) (Or.inl ⟨rfl, rfl⟩)).trans (by rw [h37])) ?_
      rw [d37]
      have s37 := sl_same (v := .bool q37) (fr_lt hF hN (show 37 < 69 by decide))
      replace s34x35 := sl_other (d := 37) (u := .bool q37) s34x35 (by decide)
      replace hF := hF.put 37 (.bool q37) (by decide)
      generalize b3.put (some 37) (.bool q37) = b4 at *
      refine ls (v := .bool q37) (wants0 g38) (run_pkF (by rw [e38]) (Sl_eval s34x35) (Sl_eval s37)) ?_
      rw [d38]
      have s38 := sl_same (v := .bool q37) (fr_lt hF hN (show 38 < 69 by decide))
      replace hF := hF.put 38 (.bool q37) (by decide)
      generalize b4.put (some 38) (.bool q37) = b5 at *
      exact seg6 _ _ hW hF (s38.trans (by simp [hb35]))
    · have s34x35 := s34
      rw [hb35] at s34x35
      refine wpList_skip (wantsNo g35 hg34 s34x35 (by decide)) ?_
      rw [d35]
      have s35 := sl_same (v := undef) (fr_lt hF hN (show 35 < 69 by decide))
      replace s34x35 := sl_other (d := 35) (u := undef) s34x35 (by decide)
      replace hF := hF.put 35 (undef) (by decide)
      generalize b1.put (some 35) (undef) = b6 at *
      refine wpList_skip (wantsNo g36 hg34 s34x35 (by decide)) ?_
      rw [d36]
      have s36 := sl_same (v := undef) (fr_lt hF hN (show 36 < 69 by decide))
      replace s34x35 := sl_other (d := 36) (u := undef) s34x35 (by decide)
      replace hF := hF.put 36 (undef) (by decide)
      generalize b6.put (some 36) (undef) = b7 at *
      refine wpList_skip (wantsNo g37 hg34 s34x35 (by decide)) ?_
      rw [d37]
      have s37 := sl_same (v := undef) (fr_lt hF hN (show 37 < 69 by decide))
      replace s34x35 := sl_other (d := 37) (u := undef) s34x35 (by decide)
      replace hF := hF.put 37 (undef) (by decide)
      generalize b7.put (some 37) (undef) = b8 at *
      refine ls (v := .bool true) (wants0 g38) (run_pkT (by rw [e38]) (Sl_eval s34x35) (BigFrame.eval_const _ _)) ?_
      rw [d38]
      have s38 := sl_same (v := .bool true) (fr_lt hF hN (show 38 < 69 by decide))
      replace hF := hF.put 38 (.bool true) (by decide)
      generalize b8.put (some 38) (.bool true) = b9 at *
      exact seg6 _ _ hW hF (s38.trans (by simp [hb35]))
  have seg4 : ∀ a1 w, Below w0.heap.size w0 w → Fr 8 69 a0 a1 → a1.tmps[28]? = some (.bool (((((q9 || q12) || q17) || q22) || !q26))) → wpList Try.prog ops Q (o29 :: o30 :: o31 :: o32 :: o33 :: o34 :: o35 :: o36 :: o37 :: o38 :: o39 :: o40 :: o41 :: o42 :: o43 :: o44 :: o45 :: o46 :: o47 :: o48 :: o49 :: o50 :: o51 :: o52 :: o53 :: o54 :: o55 :: o56 :: o57 :: o58 :: o59 :: o60 :: o61 :: o62 :: o63 :: o64 :: o65 :: o66 :: o67 :: o68 :: rest) a1 w := by
    intro a1 w hW hF s28
    refine ls (v := .bool (((((q9 || q12) || q17) || q22) || !q26))) (wants0 g29) (run_mv (by rw [e29]) (Sl_eval s28)) ?_
    rw [d29]
    have s29 := sl_same (v := .bool (((((q9 || q12) || q17) || q22) || !q26))) (fr_lt hF hN (show 29 < 69 by decide))
    replace hF := hF.put 29 (.bool (((((q9 || q12) || q17) || q22) || !q26))) (by decide)
    generalize a1.put (some 29) (.bool (((((q9 || q12) || q17) || q22) || !q26))) = b1 at *
    rcases hb30 : ((((q9 || q12) || q17) || q22) || !q26) with _ | _
    · have s29x30 := s29
      rw [hb30] at s29x30
      refine ls (v := .pointer (some ⟨A, 5, none⟩)) (wants g30 hg29 s29x30) (run_fa (by rw [e30]) (Sl_eval ((hF.k 1 (by decide)).trans i1)) (by decide)) ?_
      rw [d30]
      have s30 := sl_same (v := .pointer (some ⟨A, 5, none⟩)) (fr_lt hF hN (show 30 < 69 by decide))
      replace s29x30 := sl_other (d := 30) (u := .pointer (some ⟨A, 5, none⟩)) s29x30 (by decide)
      replace hF := hF.put 30 (.pointer (some ⟨A, 5, none⟩)) (by decide)
      generalize b1.put (some 30) (.pointer (some ⟨A, 5, none⟩)) = b2 at *
      refine ls (v := .int .i64 ((F 5))) (wants g31 hg29 s29x30) (run_ldi (by rw [e31]) (Sl_eval s30) (hM _ hW).c5 (Or.inl ⟨rfl, rfl⟩)) ?_
      rw [d31]
      have s31 := sl_same (v := .int .i64 ((F 5))) (fr_lt hF hN (show 31 < 69 by decide))
      replace s29x30 := sl_other (d := 31) (u := .int .i64 ((F 5))) s29x30 (by decide)
      replace hF := hF.put 31 (.int .i64 ((F 5))) (by decide)
      generalize b2.put (some 31) (.int .i64 ((F 5))) = b3 at *
      refine ls (v := .bool q32) (wants g32 hg29 s29x30) ((run_lss (by rw [e32]) (Sl_eval s31) (BigFrame.eval_const _ _) (Or.inl ⟨rfl, rfl⟩)).trans (by rw [h32])) ?_
      rw [d32]
      have s32 := sl_same (v := .bool q32) (fr_lt hF hN (show 32 < 69 by decide))
      replace s29x30 := sl_other (d := 32) (u := .bool q32) s29x30 (by decide)
      replace hF := hF.put 32 (.bool q32) (by decide)
      generalize b3.put (some 32) (.bool q32) = b4 at *
      refine ls (v := .bool q32) (wants0 g33) (run_pkF (by rw [e33]) (Sl_eval s29x30) (Sl_eval s32)) ?_
      rw [d33]
      have s33 := sl_same (v := .bool q32) (fr_lt hF hN (show 33 < 69 by decide))
      replace hF := hF.put 33 (.bool q32) (by decide)
      generalize b4.put (some 33) (.bool q32) = b5 at *
      exact seg5 _ _ hW hF (s33.trans (by simp [hb30]))
    · have s29x30 := s29
      rw [hb30] at s29x30
      refine wpList_skip (wantsNo g30 hg29 s29x30 (by decide)) ?_
      rw [d30]
      have s30 := sl_same (v := undef) (fr_lt hF hN (show 30 < 69 by decide))
      replace s29x30 := sl_other (d := 30) (u := undef) s29x30 (by decide)
      replace hF := hF.put 30 (undef) (by decide)
      generalize b1.put (some 30) (undef) = b6 at *
      refine wpList_skip (wantsNo g31 hg29 s29x30 (by decide)) ?_
      rw [d31]
      have s31 := sl_same (v := undef) (fr_lt hF hN (show 31 < 69 by decide))
      replace s29x30 := sl_other (d := 31) (u := undef) s29x30 (by decide)
      replace hF := hF.put 31 (undef) (by decide)
      generalize b6.put (some 31) (undef) = b7 at *
      refine wpList_skip (wantsNo g32 hg29 s29x30 (by decide)) ?_
      rw [d32]
      have s32 := sl_same (v := undef) (fr_lt hF hN (show 32 < 69 by decide))
      replace s29x30 := sl_other (d := 32) (u := undef) s29x30 (by decide)
      replace hF := hF.put 32 (undef) (by decide)
      generalize b7.put (some 32) (undef) = b8 at *
      refine ls (v := .bool true) (wants0 g33) (run_pkT (by rw [e33]) (Sl_eval s29x30) (BigFrame.eval_const _ _)) ?_
      rw [d33]
      have s33 := sl_same (v := .bool true) (fr_lt hF hN (show 33 < 69 by decide))
      replace hF := hF.put 33 (.bool true) (by decide)
      generalize b8.put (some 33) (.bool true) = b9 at *
      exact seg5 _ _ hW hF (s33.trans (by simp [hb30]))
  have seg3 : ∀ a1 w, Below w0.heap.size w0 w → Fr 8 69 a0 a1 → a1.tmps[23]? = some (.bool ((((q9 || q12) || q17) || q22))) → wpList Try.prog ops Q (o24 :: o25 :: o26 :: o27 :: o28 :: o29 :: o30 :: o31 :: o32 :: o33 :: o34 :: o35 :: o36 :: o37 :: o38 :: o39 :: o40 :: o41 :: o42 :: o43 :: o44 :: o45 :: o46 :: o47 :: o48 :: o49 :: o50 :: o51 :: o52 :: o53 :: o54 :: o55 :: o56 :: o57 :: o58 :: o59 :: o60 :: o61 :: o62 :: o63 :: o64 :: o65 :: o66 :: o67 :: o68 :: rest) a1 w := by
    intro a1 w hW hF s23
    refine ls (v := .bool ((((q9 || q12) || q17) || q22))) (wants0 g24) (run_mv (by rw [e24]) (Sl_eval s23)) ?_
    rw [d24]
    have s24 := sl_same (v := .bool ((((q9 || q12) || q17) || q22))) (fr_lt hF hN (show 24 < 69 by decide))
    replace hF := hF.put 24 (.bool ((((q9 || q12) || q17) || q22))) (by decide)
    generalize a1.put (some 24) (.bool ((((q9 || q12) || q17) || q22))) = b1 at *
    rcases hb25 : (((q9 || q12) || q17) || q22) with _ | _
    · have s24x25 := s24
      rw [hb25] at s24x25
      refine ls (v := .agg (msgL F (.slice ia ni ic) (.slice la nl lc) (.slice da dl dc)).toArray) (wants g25 hg24 s24x25) (run_ldm (by rw [e25]) (Sl_eval ((hF.k 1 (by decide)).trans i1)) (hM _ hW)) ?_
      rw [d25]
      have s25 := sl_same (v := .agg (msgL F (.slice ia ni ic) (.slice la nl lc) (.slice da dl dc)).toArray) (fr_lt hF hN (show 25 < 69 by decide))
      replace s24x25 := sl_other (d := 25) (u := .agg (msgL F (.slice ia ni ic) (.slice la nl lc) (.slice da dl dc)).toArray) s24x25 (by decide)
      replace hF := hF.put 25 (.agg (msgL F (.slice ia ni ic) (.slice la nl lc) (.slice da dl dc)).toArray) (by decide)
      generalize b1.put (some 25) (.agg (msgL F (.slice ia ni ic) (.slice la nl lc) (.slice da dl dc)).toArray) = b2 at *
      refine ls_callw (v := .bool q26) (wants g26 hg24 s24x25) (run_call1 (f := 37) (x := .tmp 25) Try.call37 (by rw [e26]) (Sl_eval s25)) (law26 _ hW) ?_
      intro w' hw'
      replace hW := hW.trans (hw'.mono hW.size)
      clear hw'
      rw [d26]
      have s26 := sl_same (v := .bool q26) (fr_lt hF hN (show 26 < 69 by decide))
      replace s24x25 := sl_other (d := 26) (u := .bool q26) s24x25 (by decide)
      replace hF := hF.put 26 (.bool q26) (by decide)
      generalize b2.put (some 26) (.bool q26) = b3 at *
      refine ls (v := .bool (!q26)) (wants g27 hg24 s24x25) (run_not (by rw [e27]) (Sl_eval s26)) ?_
      rw [d27]
      have s27 := sl_same (v := .bool (!q26)) (fr_lt hF hN (show 27 < 69 by decide))
      replace s24x25 := sl_other (d := 27) (u := .bool (!q26)) s24x25 (by decide)
      replace hF := hF.put 27 (.bool (!q26)) (by decide)
      generalize b3.put (some 27) (.bool (!q26)) = b4 at *
      refine ls (v := .bool (!q26)) (wants0 g28) (run_pkF (by rw [e28]) (Sl_eval s24x25) (Sl_eval s27)) ?_
      rw [d28]
      have s28 := sl_same (v := .bool (!q26)) (fr_lt hF hN (show 28 < 69 by decide))
      replace hF := hF.put 28 (.bool (!q26)) (by decide)
      generalize b4.put (some 28) (.bool (!q26)) = b5 at *
      exact seg4 _ _ hW hF (s28.trans (by simp [hb25]))
    · have s24x25 := s24
      rw [hb25] at s24x25
      refine wpList_skip (wantsNo g25 hg24 s24x25 (by decide)) ?_
      rw [d25]
      have s25 := sl_same (v := undef) (fr_lt hF hN (show 25 < 69 by decide))
      replace s24x25 := sl_other (d := 25) (u := undef) s24x25 (by decide)
      replace hF := hF.put 25 (undef) (by decide)
      generalize b1.put (some 25) (undef) = b6 at *
      refine wpList_skip (wantsNo g26 hg24 s24x25 (by decide)) ?_
      rw [d26]
      have s26 := sl_same (v := undef) (fr_lt hF hN (show 26 < 69 by decide))
      replace s24x25 := sl_other (d := 26) (u := undef) s24x25 (by decide)
      replace hF := hF.put 26 (undef) (by decide)
      generalize b6.put (some 26) (undef) = b7 at *
      refine wpList_skip (wantsNo g27 hg24 s24x25 (by decide)) ?_
      rw [d27]
      have s27 := sl_same (v := undef) (fr_lt hF hN (show 27 < 69 by decide))
      replace s24x25 := sl_other (d := 27) (u := undef) s24x25 (by decide)
      replace hF := hF.put 27 (undef) (by decide)
      generalize b7.put (some 27) (undef) = b8 at *
      refine ls (v := .bool true) (wants0 g28) (run_pkT (by rw [e28]) (Sl_eval s24x25) (BigFrame.eval_const _ _)) ?_
      rw [d28]
      have s28 := sl_same (v := .bool true) (fr_lt hF hN (show 28 < 69 by decide))
      replace hF := hF.put 28 (.bool true) (by decide)
      generalize b8.put (some 28) (.bool true) = b9 at *
      exact seg4 _ _ hW hF (s28.trans (by simp [hb25]))
  have seg2 : ∀ a1 w, Below w0.heap.size w0 w → Fr 8 69 a0 a1 → a1.tmps[18]? = some (.bool (((q9 || q12) || q17))) → wpList Try.prog ops Q (o19 :: o20 :: o21 :: o22 :: o23 :: o24 :: o25 :: o26 :: o27 :: o28 :: o29 :: o30 :: o31 :: o32 :: o33 :: o34 :: o35 :: o36 :: o37 :: o38 :: o39 :: o40 :: o41 :: o42 :: o43 :: o44 :: o45 :: o46 :: o47 :: o48 :: o49 :: o50 :: o51 :: o52 :: o53 :: o54 :: o55 :: o56 :: o57 :: o58 :: o59 :: o60 :: o61 :: o62 :: o63 :: o64 :: o65 :: o66 :: o67 :: o68 :: rest) a1 w := by
    intro a1 w hW hF s18
    refine ls (v := .bool (((q9 || q12) || q17))) (wants0 g19) (run_mv (by rw [e19]) (Sl_eval s18)) ?_
    rw [d19]
    have s19 := sl_same (v := .bool (((q9 || q12) || q17))) (fr_lt hF hN (show 19 < 69 by decide))
    replace hF := hF.put 19 (.bool (((q9 || q12) || q17))) (by decide)
    generalize a1.put (some 19) (.bool (((q9 || q12) || q17))) = b1 at *
    rcases hb20 : ((q9 || q12) || q17) with _ | _
    · have s19x20 := s19
      rw [hb20] at s19x20
      refine ls (v := .pointer (some ⟨A, 1, none⟩)) (wants g20 hg19 s19x20) (run_fa (by rw [e20]) (Sl_eval ((hF.k 1 (by decide)).trans i1)) (by decide)) ?_
      rw [d20]
      have s20 := sl_same (v := .pointer (some ⟨A, 1, none⟩)) (fr_lt hF hN (show 20 < 69 by decide))
      replace s19x20 := sl_other (d := 20) (u := .pointer (some ⟨A, 1, none⟩)) s19x20 (by decide)
      replace hF := hF.put 20 (.pointer (some ⟨A, 1, none⟩)) (by decide)
      generalize b1.put (some 20) (.pointer (some ⟨A, 1, none⟩)) = b2 at *
      refine ls (v := .int .i64 ((F 1))) (wants g21 hg19 s19x20) (run_ldi (by rw [e21]) (Sl_eval s20) (hM _ hW).c1 (Or.inl ⟨rfl, rfl⟩)) ?_
      rw [d21]
      have s21 := sl_same (v := .int .i64 ((F 1))) (fr_lt hF hN (show 21 < 69 by decide))
      replace s19x20 := sl_other (d := 21) (u := .int .i64 ((F 1))) s19x20 (by decide)
      replace hF := hF.put 21 (.int .i64 ((F 1))) (by decide)
      generalize b2.put (some 21) (.int .i64 ((F 1))) = b3 at *
      refine ls (v := .bool q22) (wants g22 hg19 s19x20) ((run_geq (by rw [e22]) (Sl_eval s21) (BigFrame.eval_const _ _) (Or.inl ⟨rfl, rfl⟩)).trans (by rw [h22])) ?_
      rw [d22]
      have s22 := sl_same (v := .bool q22) (fr_lt hF hN (show 22 < 69 by decide))
      replace s19x20 := sl_other (d := 22) (u := .bool q22) s19x20 (by decide)
      replace hF := hF.put 22 (.bool q22) (by decide)
      generalize b3.put (some 22) (.bool q22) = b4 at *
      refine ls (v := .bool q22) (wants0 g23) (run_pkF (by rw [e23]) (Sl_eval s19x20) (Sl_eval s22)) ?_
      rw [d23]
      have s23 := sl_same (v := .bool q22) (fr_lt hF hN (show 23 < 69 by decide))
      replace hF := hF.put 23 (.bool q22) (by decide)
      generalize b4.put (some 23) (.bool q22) = b5 at *
      exact seg3 _ _ hW hF (s23.trans (by simp [hb20]))
    · have s19x20 := s19
      rw [hb20] at s19x20
      refine wpList_skip (wantsNo g20 hg19 s19x20 (by decide)) ?_
      rw [d20]
      have s20 := sl_same (v := undef) (fr_lt hF hN (show 20 < 69 by decide))
      replace s19x20 := sl_other (d := 20) (u := undef) s19x20 (by decide)
      replace hF := hF.put 20 (undef) (by decide)
      generalize b1.put (some 20) (undef) = b6 at *
      refine wpList_skip (wantsNo g21 hg19 s19x20 (by decide)) ?_
      rw [d21]
      have s21 := sl_same (v := undef) (fr_lt hF hN (show 21 < 69 by decide))
      replace s19x20 := sl_other (d := 21) (u := undef) s19x20 (by decide)
      replace hF := hF.put 21 (undef) (by decide)
      generalize b6.put (some 21) (undef) = b7 at *
      refine wpList_skip (wantsNo g22 hg19 s19x20 (by decide)) ?_
      rw [d22]
      have s22 := sl_same (v := undef) (fr_lt hF hN (show 22 < 69 by decide))
      replace s19x20 := sl_other (d := 22) (u := undef) s19x20 (by decide)
      replace hF := hF.put 22 (undef) (by decide)
      generalize b7.put (some 22) (undef) = b8 at *
      refine ls (v := .bool true) (wants0 g23) (run_pkT (by rw [e23]) (Sl_eval s19x20) (BigFrame.eval_const _ _)) ?_
      rw [d23]
      have s23 := sl_same (v := .bool true) (fr_lt hF hN (show 23 < 69 by decide))
      replace hF := hF.put 23 (.bool true) (by decide)
      generalize b8.put (some 23) (.bool true) = b9 at *
      exact seg3 _ _ hW hF (s23.trans (by simp [hb20]))
  have seg1 : ∀ a1 w, Below w0.heap.size w0 w → Fr 8 69 a0 a1 → a1.tmps[13]? = some (.bool ((q9 || q12))) → wpList Try.prog ops Q (o14 :: o15 :: o16 :: o17 :: o18 :: o19 :: o20 :: o21 :: o22 :: o23 :: o24 :: o25 :: o26 :: o27 :: o28 :: o29 :: o30 :: o31 :: o32 :: o33 :: o34 :: o35 :: o36 :: o37 :: o38 :: o39 :: o40 :: o41 :: o42 :: o43 :: o44 :: o45 :: o46 :: o47 :: o48 :: o49 :: o50 :: o51 :: o52 :: o53 :: o54 :: o55 :: o56 :: o57 :: o58 :: o59 :: o60 :: o61 :: o62 :: o63 :: o64 :: o65 :: o66 :: o67 :: o68 :: rest) a1 w := by
    intro a1 w hW hF s13
    refine ls (v := .bool ((q9 || q12))) (wants0 g14) (run_mv (by rw [e14]) (Sl_eval s13)) ?_
    rw [d14]
    have s14 := sl_same (v := .bool ((q9 || q12))) (fr_lt hF hN (show 14 < 69 by decide))
    replace hF := hF.put 14 (.bool ((q9 || q12))) (by decide)
    generalize a1.put (some 14) (.bool ((q9 || q12))) = b1 at *
    rcases hb15 : (q9 || q12) with _ | _
    · have s14x15 := s14
      rw [hb15] at s14x15
      refine ls (v := .pointer (some ⟨A, 1, none⟩)) (wants g15 hg14 s14x15) (run_fa (by rw [e15]) (Sl_eval ((hF.k 1 (by decide)).trans i1)) (by decide)) ?_
      rw [d15]
      have s15 := sl_same (v := .pointer (some ⟨A, 1, none⟩)) (fr_lt hF hN (show 15 < 69 by decide))
      replace s14x15 := sl_other (d := 15) (u := .pointer (some ⟨A, 1, none⟩)) s14x15 (by decide)
      replace hF := hF.put 15 (.pointer (some ⟨A, 1, none⟩)) (by decide)
      generalize b1.put (some 15) (.pointer (some ⟨A, 1, none⟩)) = b2 at *
      refine ls (v := .int .i64 ((F 1))) (wants g16 hg14 s14x15) (run_ldi (by rw [e16]) (Sl_eval s15) (hM _ hW).c1 (Or.inl ⟨rfl, rfl⟩)) ?_
      rw [d16]
      have s16 := sl_same (v := .int .i64 ((F 1))) (fr_lt hF hN (show 16 < 69 by decide))
      replace s14x15 := sl_other (d := 16) (u := .int .i64 ((F 1))) s14x15 (by decide)
      replace hF := hF.put 16 (.int .i64 ((F 1))) (by decide)
      generalize b2.put (some 16) (.int .i64 ((F 1))) = b3 at *
      refine ls (v := .bool q17) (wants g17 hg14 s14x15) ((run_lss (by rw [e17]) (Sl_eval s16) (BigFrame.eval_const _ _) (Or.inl ⟨rfl, rfl⟩)).trans (by rw [h17])) ?_
      rw [d17]
      have s17 := sl_same (v := .bool q17) (fr_lt hF hN (show 17 < 69 by decide))
      replace s14x15 := sl_other (d := 17) (u := .bool q17) s14x15 (by decide)
      replace hF := hF.put 17 (.bool q17) (by decide)
      generalize b3.put (some 17) (.bool q17) = b4 at *
      refine ls (v := .bool q17) (wants0 g18) (run_pkF (by rw [e18]) (Sl_eval s14x15) (Sl_eval s17)) ?_
      rw [d18]
      have s18 := sl_same (v := .bool q17) (fr_lt hF hN (show 18 < 69 by decide))
      replace hF := hF.put 18 (.bool q17) (by decide)
      generalize b4.put (some 18) (.bool q17) = b5 at *
      exact seg2 _ _ hW hF (s18.trans (by simp [hb15]))
    · have s14x15 := s14
      rw [hb15] at s14x15
      refine wpList_skip (wantsNo g15 hg14 s14x15 (by decide)) ?_
      rw [d15]
      have s15 := sl_same (v := undef) (fr_lt hF hN (show 15 < 69 by decide))
      replace s14x15 := sl_other (d := 15) (u := undef) s14x15 (by decide)
      replace hF := hF.put 15 (undef) (by decide)
      generalize b1.put (some 15) (undef) = b6 at *
      refine wpList_skip (wantsNo g16 hg14 s14x15 (by decide)) ?_
      rw [d16]
      have s16 := sl_same (v := undef) (fr_lt hF hN (show 16 < 69 by decide))
      replace s14x15 := sl_other (d := 16) (u := undef) s14x15 (by decide)
      replace hF := hF.put 16 (undef) (by decide)
      generalize b6.put (some 16) (undef) = b7 at *
      refine wpList_skip (wantsNo g17 hg14 s14x15 (by decide)) ?_
      rw [d17]
      have s17 := sl_same (v := undef) (fr_lt hF hN (show 17 < 69 by decide))
      replace s14x15 := sl_other (d := 17) (u := undef) s14x15 (by decide)
      replace hF := hF.put 17 (undef) (by decide)
      generalize b7.put (some 17) (undef) = b8 at *
      refine ls (v := .bool true) (wants0 g18) (run_pkT (by rw [e18]) (Sl_eval s14x15) (BigFrame.eval_const _ _)) ?_
      rw [d18]
      have s18 := sl_same (v := .bool true) (fr_lt hF hN (show 18 < 69 by decide))
      replace hF := hF.put 18 (.bool true) (by decide)
      generalize b8.put (some 18) (.bool true) = b9 at *
      exact seg2 _ _ hW hF (s18.trans (by simp [hb15]))
  have seg0 : ∀ a1 w, Below w0.heap.size w0 w → Fr 8 69 a0 a1 → wpList Try.prog ops Q (o8 :: o9 :: o10 :: o11 :: o12 :: o13 :: o14 :: o15 :: o16 :: o17 :: o18 :: o19 :: o20 :: o21 :: o22 :: o23 :: o24 :: o25 :: o26 :: o27 :: o28 :: o29 :: o30 :: o31 :: o32 :: o33 :: o34 :: o35 :: o36 :: o37 :: o38 :: o39 :: o40 :: o41 :: o42 :: o43 :: o44 :: o45 :: o46 :: o47 :: o48 :: o49 :: o50 :: o51 :: o52 :: o53 :: o54 :: o55 :: o56 :: o57 :: o58 :: o59 :: o60 :: o61 :: o62 :: o63 :: o64 :: o65 :: o66 :: o67 :: o68 :: rest) a1 w := by
    intro a1 w hW hF
    refine ls (v := .int .i64 K) (wants0 g8) (run_mv (by rw [e8]) (Sl_eval ((hF.k 3 (by decide)).trans i3))) ?_
    rw [d8]
    have s8 := sl_same (v := .int .i64 K) (fr_lt hF hN (show 8 < 69 by decide))
    replace hF := hF.put 8 (.int .i64 K) (by decide)
    generalize a1.put (some 8) (.int .i64 K) = b1 at *
    refine ls (v := .bool q9) (wants0 g9) ((run_lss (by rw [e9]) (Sl_eval s8) (BigFrame.eval_const _ _) (Or.inl ⟨rfl, rfl⟩)).trans (by rw [h9])) ?_
    rw [d9]
    have s9 := sl_same (v := .bool q9) (fr_lt hF hN (show 9 < 69 by decide))
    replace hF := hF.put 9 (.bool q9) (by decide)
    generalize b1.put (some 9) (.bool q9) = b2 at *
    refine ls (v := .bool q9) (wants0 g10) (run_mv (by rw [e10]) (Sl_eval s9)) ?_
    rw [d10]
    have s10 := sl_same (v := .bool q9) (fr_lt hF hN (show 10 < 69 by decide))
    replace hF := hF.put 10 (.bool q9) (by decide)
    generalize b2.put (some 10) (.bool q9) = b3 at *
    rcases hb11 : q9 with _ | _
    · have s10x11 := s10
      rw [hb11] at s10x11
      refine ls (v := .int .i64 K) (wants g11 hg10 s10x11) (run_mv (by rw [e11]) (Sl_eval ((hF.k 3 (by decide)).trans i3))) ?_
      rw [d11]
      have s11 := sl_same (v := .int .i64 K) (fr_lt hF hN (show 11 < 69 by decide))
      replace s10x11 := sl_other (d := 11) (u := .int .i64 K) s10x11 (by decide)
      replace hF := hF.put 11 (.int .i64 K) (by decide)
      generalize b3.put (some 11) (.int .i64 K) = b4 at *
      refine ls (v := .bool q12) (wants g12 hg10 s10x11) ((run_gtr (by rw [e12]) (Sl_eval s11) (BigFrame.eval_const _ _) (Or.inl ⟨rfl, rfl⟩)).trans (by rw [h12])) ?_
      rw [d12]
      have s12 := sl_same (v := .bool q12) (fr_lt hF hN (show 12 < 69 by decide))
      replace s10x11 := sl_other (d := 12) (u := .bool q12) s10x11 (by decide)
      replace hF := hF.put 12 (.bool q12) (by decide)
      generalize b4.put (some 12) (.bool q12) = b5 at *
      refine ls (v := .bool q12) (wants0 g13) (run_pkF (by rw [e13]) (Sl_eval s10x11) (Sl_eval s12)) ?_
      rw [d13]
      have s13 := sl_same (v := .bool q12) (fr_lt hF hN (show 13 < 69 by decide))
      replace hF := hF.put 13 (.bool q12) (by decide)
      generalize b5.put (some 13) (.bool q12) = b6 at *
      exact seg1 _ _ hW hF (s13.trans (by simp [hb11]))
    · have s10x11 := s10
      rw [hb11] at s10x11
      refine wpList_skip (wantsNo g11 hg10 s10x11 (by decide)) ?_
      rw [d11]
      have s11 := sl_same (v := undef) (fr_lt hF hN (show 11 < 69 by decide))
      replace s10x11 := sl_other (d := 11) (u := undef) s10x11 (by decide)
      replace hF := hF.put 11 (undef) (by decide)
      generalize b3.put (some 11) (undef) = b7 at *
      refine wpList_skip (wantsNo g12 hg10 s10x11 (by decide)) ?_
      rw [d12]
      have s12 := sl_same (v := undef) (fr_lt hF hN (show 12 < 69 by decide))
      replace s10x11 := sl_other (d := 12) (u := undef) s10x11 (by decide)
      replace hF := hF.put 12 (undef) (by decide)
      generalize b7.put (some 12) (undef) = b8 at *
      refine ls (v := .bool true) (wants0 g13) (run_pkT (by rw [e13]) (Sl_eval s10x11) (BigFrame.eval_const _ _)) ?_
      rw [d13]
      have s13 := sl_same (v := .bool true) (fr_lt hF hN (show 13 < 69 by decide))
      replace hF := hF.put 13 (.bool true) (by decide)
      generalize b8.put (some 13) (.bool true) = b9 at *
      exact seg1 _ _ hW hF (s13.trans (by simp [hb11]))
  exact seg0 a0 w0 (Below.refl _ _) (Fr.refl _ _ _)
set_option maxHeartbeats 4000000 in
theorem regD {ops : Array Oper} {rest : List Oper} {Q : Exit → Act → World → Prop} {a0 : Act} {w0 : World} {A : Nat} {K : Int} {F : Nat → Int} {ia la da : Option Addr} {ni ic nl lc dl dc : Nat} {q104 q109 q114 q83 q87 q91 q98 q70 q74 q78 : Bool} {o69 o70 o71 o72 o73 o74 o75 o76 o77 o78 o79 o80 o81 o82 o83 o84 o85 o86 o87 o88 o89 o90 o91 o92 o93 o94 o95 o96 o97 o98 o99 o100 o101 o102 o103 o104 o105 o106 o107 o108 o109 o110 o111 o112 o113 o114 o115 o116 o117 : Oper}
    (e69 : o69 = { o69 with dst := some 69, op := .move (.tmp 3), guard := none })
    (e70 : o70 = { o70 with dst := some 70, op := .call { callee := .value (.func 38), args := #[.tmp 69, .const (.int .u8 103)], argTypes := #[3, 5] }, guard := none })
    (e71 : o71 = { o71 with dst := some 71, op := .move (.tmp 70), guard := none })
    (e72 : o72 = { o72 with dst := some 72, op := .fieldAddr 30 (.tmp 1) 6, guard := some (2, true) })
    (e73 : o73 = { o73 with dst := some 73, op := .load 3 (.tmp 72), guard := some (2, true) })
    (e74 : o74 = { o74 with dst := some 74, op := .binOp .lss 3 (.tmp 73) (.const (.int .i64 1)) 3, guard := some (2, true) })
    (e75 : o75 = { o75 with dst := some 75, op := .move (.tmp 74), guard := some (2, true) })
    (e76 : o76 = { o76 with dst := some 76, op := .fieldAddr 30 (.tmp 1) 6, guard := some (6, false) })
    (e77 : o77 = { o77 with dst := some 77, op := .load 3 (.tmp 76), guard := some (6, false) })
    (e78 : o78 = { o78 with dst := some 78, op := .binOp .gtr 3 (.tmp 77) (.const (.int .i64 60000)) 3, guard := some (6, false) })
    (e79 : o79 = { o79 with dst := some 79, op := .pick (.tmp 75) (.const (.bool true)) (.tmp 78), guard := some (2, true) })
    (e80 : o80 = { o80 with dst := some 80, op := .pick (.tmp 71) (.tmp 79) (.const (.bool false)), guard := none })
    (e81 : o81 = { o81 with dst := some 81, op := .move (.tmp 80), guard := none })
    (e82 : o82 = { o82 with dst := some 82, op := .move (.tmp 3), guard := some (12, false) })
    (e83 : o83 = { o83 with dst := some 83, op := .call { callee := .value (.func 38), args := #[.tmp 82, .const (.int .u8 111)], argTypes := #[3, 5] }, guard := some (12, false) })
    (e84 : o84 = { o84 with dst := some 84, op := .move (.tmp 83), guard := some (12, false) })
    (e85 : o85 = { o85 with dst := some 85, op := .fieldAddr 30 (.tmp 1) 10, guard := some (15, true) })
    (e86 : o86 = { o86 with dst := some 86, op := .load 3 (.tmp 85), guard := some (15, true) })
    (e87 : o87 = { o87 with dst := some 87, op := .binOp .lss 3 (.tmp 86) (.const (.int .i64 1)) 3, guard := some (15, true) })
    (e88 : o88 = { o88 with dst := some 88, op := .move (.tmp 87), guard := some (15, true) })
    (e89 : o89 = { o89 with dst := some 89, op := .fieldAddr 30 (.tmp 1) 10, guard := some (19, false) })
    (e90 : o90 = { o90 with dst := some 90, op := .load 3 (.tmp 89), guard := some (19, false) })
    (e91 : o91 = { o91 with dst := some 91, op := .binOp .gtr 3 (.tmp 90) (.const (.int .i64 65535)) 3, guard := some (19, false) })
    (e92 : o92 = { o92 with dst := some 92, op := .pick (.tmp 88) (.const (.bool true)) (.tmp 91), guard := some (15, true) })
    (e93 : o93 = { o93 with dst := some 93, op := .move (.tmp 92), guard := some (15, true) })
    (e94 : o94 = { o94 with dst := some 94, op := .fieldAddr 30 (.tmp 1) 10, guard := some (24, false) })
    (e95 : o95 = { o95 with dst := some 95, op := .load 3 (.tmp 94), guard := some (24, false) })
    (e96 : o96 = { o96 with dst := some 96, op := .fieldAddr 30 (.tmp 1) 9, guard := some (24, false) })
    (e97 : o97 = { o97 with dst := some 97, op := .load 3 (.tmp 96), guard := some (24, false) })
    (e98 : o98 = { o98 with dst := some 98, op := .binOp .leq 3 (.tmp 95) (.tmp 97) 3, guard := some (24, false) })
    (e99 : o99 = { o99 with dst := some 99, op := .pick (.tmp 93) (.const (.bool true)) (.tmp 98), guard := some (15, true) })
    (e100 : o100 = { o100 with dst := some 100, op := .pick (.tmp 84) (.tmp 99) (.const (.bool false)), guard := some (12, false) })
    (e101 : o101 = { o101 with dst := some 101, op := .pick (.tmp 81) (.const (.bool true)) (.tmp 100), guard := none })
    (e102 : o102 = { o102 with dst := some 102, op := .move (.tmp 101), guard := none })
    (e103 : o103 = { o103 with dst := some 103, op := .move (.tmp 3), guard := some (33, false) })
    (e104 : o104 = { o104 with dst := some 104, op := .call { callee := .value (.func 38), args := #[.tmp 103, .const (.int .u8 100)], argTypes := #[3, 5] }, guard := some (33, false) })
    (e105 : o105 = { o105 with dst := some 105, op := .move (.tmp 104), guard := some (33, false) })
    (e106 : o106 = { o106 with dst := some 106, op := .fieldAddr 30 (.tmp 1) 15, guard := some (36, true) })
    (e107 : o107 = { o107 with dst := some 107, op := .load 28 (.tmp 106), guard := some (36, true) })
    (e108 : o108 = { o108 with dst := some 108, op := .call { callee := .builtin .len, args := #[.tmp 107], argTypes := #[28] }, guard := some (36, true) })
    (e109 : o109 = { o109 with dst := some 109, op := .binOp .lss 3 (.tmp 108) (.const (.int .i64 1)) 3, guard := some (36, true) })
    (e110 : o110 = { o110 with dst := some 110, op := .move (.tmp 109), guard := some (36, true) })
    (e111 : o111 = { o111 with dst := some 111, op := .fieldAddr 30 (.tmp 1) 15, guard := some (41, false) })
    (e112 : o112 = { o112 with dst := some 112, op := .load 28 (.tmp 111), guard := some (41, false) })
    (e113 : o113 = { o113 with dst := some 113, op := .call { callee := .builtin .len, args := #[.tmp 112], argTypes := #[28] }, guard := some (41, false) })
    (e114 : o114 = { o114 with dst := some 114, op := .binOp .gtr 3 (.tmp 113) (.const (.int .i64 64)) 3, guard := some (41, false) })
    (e115 : o115 = { o115 with dst := some 115, op := .pick (.tmp 110) (.const (.bool true)) (.tmp 114), guard := some (36, true) })
    (e116 : o116 = { o116 with dst := some 116, op := .pick (.tmp 105) (.tmp 115) (.const (.bool false)), guard := some (33, false) })
    (e117 : o117 = { o117 with dst := some 117, op := .pick (.tmp 102) (.const (.bool true)) (.tmp 116), guard := none })
    (hg71 : (ops[2]?).bind (·.dst) = some 71)
    (hg75 : (ops[6]?).bind (·.dst) = some 75)
    (hg81 : (ops[12]?).bind (·.dst) = some 81)
    (hg84 : (ops[15]?).bind (·.dst) = some 84)
    (hg88 : (ops[19]?).bind (·.dst) = some 88)
    (hg93 : (ops[24]?).bind (·.dst) = some 93)
    (hg102 : (ops[33]?).bind (·.dst) = some 102)
    (hg105 : (ops[36]?).bind (·.dst) = some 105)
    (hg110 : (ops[41]?).bind (·.dst) = some 110)
    (hN : 118 ≤ a0.tmps.size)
    (i1 : a0.tmps[1]? = some (.pointer (some ⟨A, 0, none⟩)))
    (i3 : a0.tmps[3]? = some (.int .i64 K))
    (hM : ∀ w, Below w0.heap.size w0 w → MsgAt w A F (.slice ia ni ic) (.slice la nl lc) (.slice da dl dc))
    (h109 : decide ((dl : Int) < 1) = q109) (h114 : decide (64 < (dl : Int)) = q114) (h87 : decide ((F 10) < 1) = q87) (h91 : decide (65535 < (F 10)) = q91) (h98 : decide ((F 10) ≤ (F 9)) = q98) (h74 : decide ((F 6) < 1) = q74) (h78 : decide (60000 < (F 6)) = q78)
    (law104 : ∀ w, Below w0.heap.size w0 w → Calls Try.prog 38 #[.int .i64 K, .int .u8 100] w fun e w' => e = .returned (.bool q104) ∧ w' = w)
    (law83 : ∀ w, Below w0.heap.size w0 w → Calls Try.prog 38 #[.int .i64 K, .int .u8 111] w fun e w' => e = .returned (.bool q83) ∧ w' = w)
    (law70 : ∀ w, Below w0.heap.size w0 w → Calls Try.prog 38 #[.int .i64 K, .int .u8 103] w fun e w' => e = .returned (.bool q70) ∧ w' = w)
    (h : ∀ a' w , Below w0.heap.size w0 w → Fr 69 118 a0 a' → a'.tmps[117]? = some (.bool ((((q70 && (q74 || q78)) || (q83 && ((q87 || q91) || q98))) || (q104 && (q109 || q114))))) → wpList Try.prog ops Q rest a' w) :
    wpList Try.prog ops Q (o69 :: o70 :: o71 :: o72 :: o73 :: o74 :: o75 :: o76 :: o77 :: o78 :: o79 :: o80 :: o81 :: o82 :: o83 :: o84 :: o85 :: o86 :: o87 :: o88 :: o89 :: o90 :: o91 :: o92 :: o93 :: o94 :: o95 :: o96 :: o97 :: o98 :: o99 :: o100 :: o101 :: o102 :: o103 :: o104 :: o105 :: o106 :: o107 :: o108 :: o109 :: o110 :: o111 :: o112 :: o113 :: o114 :: o115 :: o116 :: o117 :: rest) a0 w0 := by
  have g69 : o69.guard = none := by rw [e69]
  have d69 : o69.dst = some 69 := by rw [e69]
  have g70 : o70.guard = none := by rw [e70]
  have d70 : o70.dst = some 70 := by rw [e70]
  have g71 : o71.guard = none := by rw [e71]
  have d71 : o71.dst = some 71 := by rw [e71]
  have g72 : o72.guard = some (2, true) := by rw [e72]
  have d72 : o72.dst = some 72 := by rw [e72]
  have g73 : o73.guard = some (2, true) := by rw [e73]
  have d73 : o73.dst = some 73 := by rw [e73]
  have g74 : o74.guard = some (2, true) := by rw [e74]
  have d74 : o74.dst = some 74 := by rw [e74]
  have g75 : o75.guard = some (2, true) := by rw [e75]
  have d75 : o75.dst = some 75 := by rw [e75]
  have g76 : o76.guard = some (6, false) := by rw [e76]
  have d76 : o76.dst = some 76 := by rw [e76]
  have g77 : o77.guard = some (6, false) := by rw [e77]
  have d77 : o77.dst = some 77 := by rw [e77]
  have g78 : o78.guard = some (6, false) := by rw [e78]
  have d78 : o78.dst = some 78 := by rw [e78]
  have g79 : o79.guard = some (2, true) := by rw [e79]
  have d79 : o79.dst = some 79 := by rw [e79]
  have g80 : o80.guard = none := by rw [e80]
  have d80 : o80.dst = some 80 := by rw [e80]
  have g81 : o81.guard = none := by rw [e81]
  have d81 : o81.dst = some 81 := by rw [e81]
  have g82 : o82.guard = some (12, false) := by rw [e82]
  have d82 : o82.dst = some 82 := by rw [e82]
  have g83 : o83.guard = some (12, false) := by rw [e83]
  have d83 : o83.dst = some 83 := by rw [e83]
  have g84 : o84.guard = some (12, false) := by rw [e84]
  have d84 : o84.dst = some 84 := by rw [e84]
  have g85 : o85.guard = some (15, true) := by rw [e85]
  have d85 : o85.dst = some 85 := by rw [e85]
  have g86 : o86.guard = some (15, true) := by rw [e86]
  have d86 : o86.dst = some 86 := by rw [e86]
  have g87 : o87.guard = some (15, true) := by rw [e87]
  have d87 : o87.dst = some 87 := by rw [e87]
  have g88 : o88.guard = some (15, true) := by rw [e88]
  have d88 : o88.dst = some 88 := by rw [e88]
  have g89 : o89.guard = some (19, false) := by rw [e89]
  have d89 : o89.dst = some 89 := by rw [e89]
  have g90 : o90.guard = some (19, false) := by rw [e90]
  have d90 : o90.dst = some 90 := by rw [e90]
  have g91 : o91.guard = some (19, false) := by rw [e91]
  have d91 : o91.dst = some 91 := by rw [e91]
  have g92 : o92.guard = some (15, true) := by rw [e92]
  have d92 : o92.dst = some 92 := by rw [e92]
  have g93 : o93.guard = some (15, true) := by rw [e93]
  have d93 : o93.dst = some 93 := by rw [e93]
  have g94 : o94.guard = some (24, false) := by rw [e94]
  have d94 : o94.dst = some 94 := by rw [e94]
  have g95 : o95.guard = some (24, false) := by rw [e95]
  have d95 : o95.dst = some 95 := by rw [e95]
  have g96 : o96.guard = some (24, false) := by rw [e96]
  have d96 : o96.dst = some 96 := by rw [e96]
  have g97 : o97.guard = some (24, false) := by rw [e97]
  have d97 : o97.dst = some 97 := by rw [e97]
  have g98 : o98.guard = some (24, false) := by rw [e98]
  have d98 : o98.dst = some 98 := by rw [e98]
  have g99 : o99.guard = some (15, true) := by rw [e99]
  have d99 : o99.dst = some 99 := by rw [e99]
  have g100 : o100.guard = some (12, false) := by rw [e100]
  have d100 : o100.dst = some 100 := by rw [e100]
  have g101 : o101.guard = none := by rw [e101]
  have d101 : o101.dst = some 101 := by rw [e101]
  have g102 : o102.guard = none := by rw [e102]
  have d102 : o102.dst = some 102 := by rw [e102]
  have g103 : o103.guard = some (33, false) := by rw [e103]
  have d103 : o103.dst = some 103 := by rw [e103]
  have g104 : o104.guard = some (33, false) := by rw [e104]
  have d104 : o104.dst = some 104 := by rw [e104]
  have g105 : o105.guard = some (33, false) := by rw [e105]
  have d105 : o105.dst = some 105 := by rw [e105]
  have g106 : o106.guard = some (36, true) := by rw [e106]
  have d106 : o106.dst = some 106 := by rw [e106]
  have g107 : o107.guard = some (36, true) := by rw [e107]
  have d107 : o107.dst = some 107 := by rw [e107]
  have g108 : o108.guard = some (36, true) := by rw [e108]
  have d108 : o108.dst = some 108 := by rw [e108]
  have g109 : o109.guard = some (36, true) := by rw [e109]
  have d109 : o109.dst = some 109 := by rw [e109]
  have g110 : o110.guard = some (36, true) := by rw [e110]
  have d110 : o110.dst = some 110 := by rw [e110]
  have g111 : o111.guard = some (41, false) := by rw [e111]
  have d111 : o111.dst = some 111 := by rw [e111]
  have g112 : o112.guard = some (41, false) := by rw [e112]
  have d112 : o112.dst = some 112 := by rw [e112]
  have g113 : o113.guard = some (41, false) := by rw [e113]
  have d113 : o113.dst = some 113 := by rw [e113]
  have g114 : o114.guard = some (41, false) := by rw [e114]
  have d114 : o114.dst = some 114 := by rw [e114]
  have g115 : o115.guard = some (36, true) := by rw [e115]
  have d115 : o115.dst = some 115 := by rw [e115]
  have g116 : o116.guard = some (33, false) := by rw [e116]
  have d116 : o116.dst = some 116 := by rw [e116]
  have g117 : o117.guard = none := by rw [e117]
  have d117 : o117.dst = some 117 := by rw [e117]
  have seg2 : ∀ a1 w, Below w0.heap.size w0 w → Fr 69 118 a0 a1 → a1.tmps[101]? = some (.bool (((q70 && (q74 || q78)) || (q83 && ((q87 || q91) || q98))))) → wpList Try.prog ops Q (o102 :: o103 :: o104 :: o105 :: o106 :: o107 :: o108 :: o109 :: o110 :: o111 :: o112 :: o113 :: o114 :: o115 :: o116 :: o117 :: rest) a1 w := by
    intro a1 w hW hF s101
    refine ls (v := .bool (((q70 && (q74 || q78)) || (q83 && ((q87 || q91) || q98))))) (wants0 g102) (run_mv (by rw [e102]) (Sl_eval s101)) ?_
    rw [d102]
    have s102 := sl_same (v := .bool (((q70 && (q74 || q78)) || (q83 && ((q87 || q91) || q98))))) (fr_lt hF hN (show 102 < 118 by decide))
    replace hF := hF.put 102 (.bool (((q70 && (q74 || q78)) || (q83 && ((q87 || q91) || q98))))) (by decide)
    generalize a1.put (some 102) (.bool (((q70 && (q74 || q78)) || (q83 && ((q87 || q91) || q98))))) = b1 at *
    rcases hb103 : ((q70 && (q74 || q78)) || (q83 && ((q87 || q91) || q98))) with _ | _
    · have s102x103 := s102
      rw [hb103] at s102x103
      refine ls (v := .int .i64 K) (wants g103 hg102 s102x103) (run_mv (by rw [e103]) (Sl_eval ((hF.k 3 (by decide)).trans i3))) ?_
      rw [d103]
      have s103 := sl_same (v := .int .i64 K) (fr_lt hF hN (show 103 < 118 by decide))
      replace s102x103 := sl_other (d := 103) (u := .int .i64 K) s102x103 (by decide)
      replace hF := hF.put 103 (.int .i64 K) (by decide)
      generalize b1.put (some 103) (.int .i64 K) = b2 at *
      refine ls_call (v := .bool q104) (wants g104 hg102 s102x103) (run_call2 (f := 38) (x := .tmp 103) (y := .const (.int .u8 100)) Try.call38 (by rw [e104]) (Sl_eval s103) (BigFrame.eval_const _ _)) (law104 _ hW) ?_
      rw [d104]
      have s104 := sl_same (v := .bool q104) (fr_lt hF hN (show 104 < 118 by decide))
      replace s102x103 := sl_other (d := 104) (u := .bool q104) s102x103 (by decide)
      replace hF := hF.put 104 (.bool q104) (by decide)
      generalize b2.put (some 104) (.bool q104) = b3 at *
      refine ls (v := .bool q104) (wants g105 hg102 s102x103) (run_mv (by rw [e105]) (Sl_eval s104)) ?_
      rw [d105]
      have s105 := sl_same (v := .bool q104) (fr_lt hF hN (show 105 < 118 by decide))
      replace s102x103 := sl_other (d := 105) (u := .bool q104) s102x103 (by decide)
      replace hF := hF.put 105 (.bool q104) (by decide)
      generalize b3.put (some 105) (.bool q104) = b4 at *
      rcases hb106 : q104 with _ | _
      · have s105x106 := s105
        rw [hb106] at s105x106
        refine wpList_skip (wantsNo g106 hg105 s105x106 (by decide)) ?_
        rw [d106]
        have s106 := sl_same (v := undef) (fr_lt hF hN (show 106 < 118 by decide))
        replace s102x103 := sl_other (d := 106) (u := undef) s102x103 (by decide)
        replace s105x106 := sl_other (d := 106) (u := undef) s105x106 (by decide)
        replace hF := hF.put 106 (undef) (by decide)
        generalize b4.put (some 106) (undef) = b5 at *
        refine wpList_skip (wantsNo g107 hg105 s105x106 (by decide)) ?_
        rw [d107]
        have s107 := sl_same (v := undef) (fr_lt hF hN (show 107 < 118 by decide))
        replace s102x103 := sl_other (d := 107) (u := undef) s102x103 (by decide)
        replace s105x106 := sl_other (d := 107) (u := undef) s105x106 (by decide)
        replace hF := hF.put 107 (undef) (by decide)
        generalize b5.put (some 107) (undef) = b6 at *
        refine wpList_skip (wantsNo g108 hg105 s105x106 (by decide)) ?_
        rw [d108]
        have s108 := sl_same (v := undef) (fr_lt hF hN (show 108 < 118 by decide))
        replace s102x103 := sl_other (d := 108) (u := undef) s102x103 (by decide)
        replace s105x106 := sl_other (d := 108) (u := undef) s105x106 (by decide)
        replace hF := hF.put 108 (undef) (by decide)
        generalize b6.put (some 108) (undef) = b7 at *
        refine wpList_skip (wantsNo g109 hg105 s105x106 (by decide)) ?_
        rw [d109]
        have s109 := sl_same (v := undef) (fr_lt hF hN (show 109 < 118 by decide))
        replace s102x103 := sl_other (d := 109) (u := undef) s102x103 (by decide)
        replace s105x106 := sl_other (d := 109) (u := undef) s105x106 (by decide)
        replace hF := hF.put 109 (undef) (by decide)
        generalize b7.put (some 109) (undef) = b8 at *
        refine wpList_skip (wantsNo g110 hg105 s105x106 (by decide)) ?_
        rw [d110]
        have s110 := sl_same (v := undef) (fr_lt hF hN (show 110 < 118 by decide))
        replace s102x103 := sl_other (d := 110) (u := undef) s102x103 (by decide)
        replace s105x106 := sl_other (d := 110) (u := undef) s105x106 (by decide)
        replace hF := hF.put 110 (undef) (by decide)
        generalize b8.put (some 110) (undef) = b9 at *
        refine wpList_skip (wantsUn g111 hg110 s110) ?_
        rw [d111]
        have s111 := sl_same (v := undef) (fr_lt hF hN (show 111 < 118 by decide))
        replace s102x103 := sl_other (d := 111) (u := undef) s102x103 (by decide)
        replace s105x106 := sl_other (d := 111) (u := undef) s105x106 (by decide)
        replace s110 := sl_other (d := 111) (u := undef) s110 (by decide)
        replace hF := hF.put 111 (undef) (by decide)
        generalize b9.put (some 111) (undef) = b10 at *
        refine wpList_skip (wantsUn g112 hg110 s110) ?_
        rw [d112]
        have s112 := sl_same (v := undef) (fr_lt hF hN (show 112 < 118 by decide))
        replace s102x103 := sl_other (d := 112) (u := undef) s102x103 (by decide)
        replace s105x106 := sl_other (d := 112) (u := undef) s105x106 (by decide)
        replace s110 := sl_other (d := 112) (u := undef) s110 (by decide)
        replace hF := hF.put 112 (undef) (by decide)
        generalize b10.put (some 112) (undef) = b11 at *
        refine wpList_skip (wantsUn g113 hg110 s110) ?_
        rw [d113]
        have s113 := sl_same (v := undef) (fr_lt hF hN (show 113 < 118 by decide))
        replace s102x103 := sl_other (d := 113) (u := undef) s102x103 (by decide)
        replace s105x106 := sl_other (d := 113) (u := undef) s105x106 (by decide)
        replace s110 := sl_other (d := 113) (u := undef) s110 (by decide)
        replace hF := hF.put 113 (undef) (by decide)
        generalize b11.put (some 113) (undef) = b12 at *
        refine wpList_skip (wantsUn g114 hg110 s110) ?_
        rw [d114]
        have s114 := sl_same (v := undef) (fr_lt hF hN (show 114 < 118 by decide))
        replace s102x103 := sl_other (d := 114) (u := undef) s102x103 (by decide)
        replace s105x106 := sl_other (d := 114) (u := undef) s105x106 (by decide)
        replace s110 := sl_other (d := 114) (u := undef) s110 (by decide)
        replace hF := hF.put 114 (undef) (by decide)
        generalize b12.put (some 114) (undef) = b13 at *
        refine wpList_skip (wantsNo g115 hg105 s105x106 (by decide)) ?_
        rw [d115]
        have s115 := sl_same (v := undef) (fr_lt hF hN (show 115 < 118 by decide))
        replace s102x103 := sl_other (d := 115) (u := undef) s102x103 (by decide)
        replace s105x106 := sl_other (d := 115) (u := undef) s105x106 (by decide)
        replace hF := hF.put 115 (undef) (by decide)
        generalize b13.put (some 115) (undef) = b14 at *
        refine ls (v := .bool false) (wants g116 hg102 s102x103) (run_pkF (by rw [e116]) (Sl_eval s105x106) (BigFrame.eval_const _ _)) ?_
        rw [d116]
        have s116 := sl_same (v := .bool false) (fr_lt hF hN (show 116 < 118 by decide))
        replace s102x103 := sl_other (d := 116) (u := .bool false) s102x103 (by decide)
        replace hF := hF.put 116 (.bool false) (by decide)
        generalize b14.put (some 116) (.bool false) = b15 at *
        refine ls (v := .bool false) (wants0 g117) (run_pkF (by rw [e117]) (Sl_eval s102x103) (Sl_eval s116)) ?_
        rw [d117]
        have s117 := sl_same (v := .bool false) (fr_lt hF hN (show 117 < 118 by decide))
        replace hF := hF.put 117 (.bool false) (by decide)
        generalize b15.put (some 117) (.bool false) = b16 at *
        exact h _ _ hW hF (s117.trans (by simp [hb103, hb106]))
      · have s105x106 := s105
        rw [hb106] at s105x106
        refine ls (v := .pointer (some ⟨A, 15, none⟩)) (wants g106 hg105 s105x106) (run_fa (by rw [e106]) (Sl_eval ((hF.k 1 (by decide)).trans i1)) (by decide)) ?_
        rw [d106]
        have s106 := sl_same (v := .pointer (some ⟨A, 15, none⟩)) (fr_lt hF hN (show 106 < 118 by decide))
        replace s102x103 := sl_other (d := 106) (u := .pointer (some ⟨A, 15, none⟩)) s102x103 (by decide)
        replace s105x106 := sl_other (d := 106) (u := .pointer (some ⟨A, 15, none⟩)) s105x106 (by decide)
        replace hF := hF.put 106 (.pointer (some ⟨A, 15, none⟩)) (by decide)
        generalize b4.put (some 106) (.pointer (some ⟨A, 15, none⟩)) = b17 at *
        refine ls (v := .slice da dl dc) (wants g107 hg105 s105x106) (run_lds (by rw [e107]) (Sl_eval s106) (hM _ hW).c15 (Or.inr (Or.inr rfl))) ?_
        rw [d107]
        have s107 := sl_same (v := .slice da dl dc) (fr_lt hF hN (show 107 < 118 by decide))
        replace s102x103 := sl_other (d := 107) (u := .slice da dl dc) s102x103 (by decide)
        replace s105x106 := sl_other (d := 107) (u := .slice da dl dc) s105x106 (by decide)
        replace hF := hF.put 107 (.slice da dl dc) (by decide)
        generalize b17.put (some 107) (.slice da dl dc) = b18 at *
        refine ls (v := .int .i64 ((dl : Int))) (wants g108 hg105 s105x106) (run_lensl (by rw [e108]) (Sl_eval s107) (Or.inr (Or.inr rfl))) ?_
        rw [d108]
        have s108 := sl_same (v := .int .i64 ((dl : Int))) (fr_lt hF hN (show 108 < 118 by decide))
        replace s102x103 := sl_other (d := 108) (u := .int .i64 ((dl : Int))) s102x103 (by decide)
        replace s105x106 := sl_other (d := 108) (u := .int .i64 ((dl : Int))) s105x106 (by decide)
        replace hF := hF.put 108 (.int .i64 ((dl : Int))) (by decide)
        generalize b18.put (some 108) (.int .i64 ((dl : Int))) = b19 at *
        refine ls (v := .bool q109) (wants g109 hg105 s105x106) ((run_lss (by rw [e109]) (Sl_eval s108) (BigFrame.eval_const _ _) (Or.inl ⟨rfl, rfl⟩)).trans (by rw [h109])) ?_
        rw [d109]
        have s109 := sl_same (v := .bool q109) (fr_lt hF hN (show 109 < 118 by decide))
        replace s102x103 := sl_other (d := 109) (u := .bool q109) s102x103 (by decide)
        replace s105x106 := sl_other (d := 109) (u := .bool q109) s105x106 (by decide)
        replace hF := hF.put 109 (.bool q109) (by decide)
        generalize b19.put (some 109) (.bool q109) = b20 at *
        refine ls (v := .bool q109) (wants g110 hg105 s105x106) (run_mv (by rw [e110]) (Sl_eval s109)) ?_
        rw [d110]
        have s110 := sl_same (v := .bool q109) (fr_lt hF hN (show 110 < 118 by decide))
        replace s102x103 := sl_other (d := 110) (u := .bool q109) s102x103 (by decide)
        replace s105x106 := sl_other (d := 110) (u := .bool q109) s105x106 (by decide)
        replace hF := hF.put 110 (.bool q109) (by decide)
        generalize b20.put (some 110) (.bool q109) = b21 at *
        rcases hb111 : q109 with _ | _
        · have s110x111 := s110
          rw [hb111] at s110x111
          refine ls (v := .pointer (some ⟨A, 15, none⟩)) (wants g111 hg110 s110x111) (run_fa (by rw [e111]) (Sl_eval ((hF.k 1 (by decide)).trans i1)) (by decide)) ?_
          rw [d111]
          have s111 := sl_same (v := .pointer (some ⟨A, 15, none⟩)) (fr_lt hF hN (show 111 < 118 by decide))
          replace s102x103 := sl_other (d := 111) (u := .pointer (some ⟨A, 15, none⟩)) s102x103 (by decide)
          replace s105x106 := sl_other (d := 111) (u := .pointer (some ⟨A, 15, none⟩)) s105x106 (by decide)
          replace s110x111 := sl_other (d := 111) (u := .pointer (some ⟨A, 15, none⟩)) s110x111 (by decide)
          replace hF := hF.put 111 (.pointer (some ⟨A, 15, none⟩)) (by decide)
          generalize b21.put (some 111) (.pointer (some ⟨A, 15, none⟩)) = b22 at *
          refine ls (v := .slice da dl dc) (wants g112 hg110 s110x111) (run_lds (by rw [e112]) (Sl_eval s111) (hM _ hW).c15 (Or.inr (Or.inr rfl))) ?_
          rw [d112]
          have s112 := sl_same (v := .slice da dl dc) (fr_lt hF hN (show 112 < 118 by decide))
          replace s102x103 := sl_other (d := 112) (u := .slice da dl dc) s102x103 (by decide)
          replace s105x106 := sl_other (d := 112) (u := .slice da dl dc) s105x106 (by decide)
          replace s110x111 := sl_other (d := 112) (u := .slice da dl dc) s110x111 (by decide)
          replace hF := hF.put 112 (.slice da dl dc) (by decide)
          generalize b22.put (some 112) (.slice da dl dc) = b23 at *
          refine ls (v := .int .i64 ((dl : Int))) (wants g113 hg110 s110x111) (run_lensl (by rw [e113]) (Sl_eval s112) (Or.inr (Or.inr rfl))) ?_
          rw [d113]
          have s113 := sl_same (v := .int .i64 ((dl : Int))) (fr_lt hF hN (show 113 < 118 by decide))
          replace s102x103 := sl_other (d := 113) (u := .int .i64 ((dl : Int))) s102x103 (by decide)
          replace s105x106 := sl_other (d := 113) (u := .int .i64 ((dl : Int))) s105x106 (by decide)
          replace s110x111 := sl_other (d := 113) (u := .int .i64 ((dl : Int))) s110x111 (by decide)
          replace hF := hF.put 113 (.int .i64 ((dl : Int))) (by decide)
          generalize b23.put (some 113) (.int .i64 ((dl : Int))) = b24 at *
          refine ls (v := .bool q114) (wants g114 hg110 s110x111) ((run_gtr (by rw [e114]) (Sl_eval s113) (BigFrame.eval_const _ _) (Or.inl ⟨rfl, rfl⟩)).trans (by rw [h114])) ?_
          rw [d114]
          have s114 := sl_same (v := .bool q114) (fr_lt hF hN (show 114 < 118 by decide))
          replace s102x103 := sl_other (d := 114) (u := .bool q114) s102x103 (by decide)
          replace s105x106 := sl_other (d := 114) (u := .bool q114) s105x106 (by decide)
          replace s110x111 := sl_other (d := 114) (u := .bool q114) s110x111 (by decide)
          replace hF := hF.put 114 (.bool q114) (by decide)
          generalize b24.put (some 114) (.bool q114) = b25 at *
          refine ls (v := .bool q114) (wants g115 hg105 s105x106) (run_pkF (by rw [e115]) (Sl_eval s110x111) (Sl_eval s114)) ?_
          rw [d115]
          have s115 := sl_same (v := .bool q114) (fr_lt hF hN (show 115 < 118 by decide))
          replace s102x103 := sl_other (d := 115) (u := .bool q114) s102x103 (by decide)
          replace s105x106 := sl_other (d := 115) (u := .bool q114) s105x106 (by decide)
          replace hF := hF.put 115 (.bool q114) (by decide)
          generalize b25.put (some 115) (.bool q114) = b26 at *
          refine ls (v := .bool q114) (wants g116 hg102 s102x103) (run_pkT (by rw [e116]) (Sl_eval s105x106) (Sl_eval s115)) ?_
          rw [d116]
          have s116 := sl_same (v := .bool q114) (fr_lt hF hN (show 116 < 118 by decide))
          replace s102x103 := sl_other (d := 116) (u := .bool q114) s102x103 (by decide)
          replace hF := hF.put 116 (.bool q114) (by decide)
          generalize b26.put (some 116) (.bool q114) = b27 at *
          refine ls (v := .bool q114) (wants0 g117) (run_pkF (by rw [e117]) (Sl_eval s102x103) (Sl_eval s116)) ?_
          rw [d117]
          have s117 := sl_same (v := .bool q114) (fr_lt hF hN (show 117 < 118 by decide))
          replace hF := hF.put 117 (.bool q114) (by decide)
          generalize b27.put (some 117) (.bool q114) = b28 at *
          exact h _ _ hW hF (s117.trans (by simp [hb103, hb106, hb111]))
        · have s110x111 := s110
          rw [hb111] at s110x111
          refine wpList_skip (wantsNo g111 hg110 s110x111 (by decide)) ?_
          rw [d111]
          have s111 := sl_same (v := undef) (fr_lt hF hN (show 111 < 118 by decide))
          replace s102x103 := sl_other (d := 111) (u := undef) s102x103 (by decide)
          replace s105x106 := sl_other (d := 111) (u := undef) s105x106 (by decide)
          replace s110x111 := sl_other (d := 111) (u := undef) s110x111 (by decide)
          replace hF := hF.put 111 (undef) (by decide)
          generalize b21.put (some 111) (undef) = b29 at *
          refine wpList_skip (wantsNo g112 hg110 s110x111 (by decide)) ?_
          rw [d112]
          have s112 := sl_same (v := undef) (fr_lt hF hN (show 112 < 118 by decide))
          replace s102x103 := sl_other (d := 112) (u := undef) s102x103 (by decide)
          replace s105x106 := sl_other (d := 112) (u := undef) s105x106 (by decide)
          replace s110x111 := sl_other (d := 112) (u := undef) s110x111 (by decide)
          replace hF := hF.put 112 (undef) (by decide)
          generalize b29.put (some 112) (undef) = b30 at *
          refine wpList_skip (wantsNo g113 hg110 s110x111 (by decide)) ?_
          rw [d113]
          have s113 := sl_same (v := undef) (fr_lt hF hN (show 113 < 118 by decide))
          replace s102x103 := sl_other (d := 113) (u := undef) s102x103 (by decide)
          replace s105x106 := sl_other (d := 113) (u := undef) s105x106 (by decide)
          replace s110x111 := sl_other (d := 113) (u := undef) s110x111 (by decide)
          replace hF := hF.put 113 (undef) (by decide)
          generalize b30.put (some 113) (undef) = b31 at *
          refine wpList_skip (wantsNo g114 hg110 s110x111 (by decide)) ?_
          rw [d114]
          have s114 := sl_same (v := undef) (fr_lt hF hN (show 114 < 118 by decide))
          replace s102x103 := sl_other (d := 114) (u := undef) s102x103 (by decide)
          replace s105x106 := sl_other (d := 114) (u := undef) s105x106 (by decide)
          replace s110x111 := sl_other (d := 114) (u := undef) s110x111 (by decide)
          replace hF := hF.put 114 (undef) (by decide)
          generalize b31.put (some 114) (undef) = b32 at *
          refine ls (v := .bool true) (wants g115 hg105 s105x106) (run_pkT (by rw [e115]) (Sl_eval s110x111) (BigFrame.eval_const _ _)) ?_
          rw [d115]
          have s115 := sl_same (v := .bool true) (fr_lt hF hN (show 115 < 118 by decide))
          replace s102x103 := sl_other (d := 115) (u := .bool true) s102x103 (by decide)
          replace s105x106 := sl_other (d := 115) (u := .bool true) s105x106 (by decide)
          replace hF := hF.put 115 (.bool true) (by decide)
          generalize b32.put (some 115) (.bool true) = b33 at *
          refine ls (v := .bool true) (wants g116 hg102 s102x103) (run_pkT (by rw [e116]) (Sl_eval s105x106) (Sl_eval s115)) ?_
          rw [d116]
          have s116 := sl_same (v := .bool true) (fr_lt hF hN (show 116 < 118 by decide))
          replace s102x103 := sl_other (d := 116) (u := .bool true) s102x103 (by decide)
          replace hF := hF.put 116 (.bool true) (by decide)
          generalize b33.put (some 116) (.bool true) = b34 at *
          refine ls (v := .bool true) (wants0 g117) (run_pkF (by rw [e117]) (Sl_eval s102x103) (Sl_eval s116)) ?_
          rw [d117]
          have s117 := sl_same (v := .bool true) (fr_lt hF hN (show 117 < 118 by decide))
          replace hF := hF.put 117 (.bool true) (by decide)
          generalize b34.put (some 117) (.bool true) = b35 at *
          exact h _ _ hW hF (s117.trans (by simp [hb103, hb106, hb111]))
    · have s102x103 := s102
      rw [hb103] at s102x103
      refine wpList_skip (wantsNo g103 hg102 s102x103 (by decide)) ?_
      rw [d103]
      have s103 := sl_same (v := undef) (fr_lt hF hN (show 103 < 118 by decide))
      replace s102x103 := sl_other (d := 103) (u := undef) s102x103 (by decide)
      replace hF := hF.put 103 (undef) (by decide)
      generalize b1.put (some 103) (undef) = b36 at *
      refine wpList_skip (wantsNo g104 hg102 s102x103 (by decide)) ?_
      rw [d104]
      have s104 := sl_same (v := undef) (fr_lt hF hN (show 104 < 118 by decide))
      replace s102x103 := sl_other (d := 104) (u := undef) s102x103 (by decide)
      replace hF := hF.put 104 (undef) (by decide)
      generalize b36.put (some 104) (undef) = b37 at *
      refine wpList_skip (wantsNo g105 hg102 s102x103 (by decide)) ?_
      rw [d105]
      have s105 := sl_same (v := undef) (fr_lt hF hN (show 105 < 118 by decide))
      replace s102x103 := sl_other (d := 105) (u := undef) s102x103 (by decide)
      replace hF := hF.put 105 (undef) (by decide)
      generalize b37.put (some 105) (undef) = b38 at *
      refine wpList_skip (wantsUn g106 hg105 s105) ?_
      rw [d106]
      have s106 := sl_same (v := undef) (fr_lt hF hN (show 106 < 118 by decide))
      replace s102x103 := sl_other (d := 106) (u := undef) s102x103 (by decide)
      replace s105 := sl_other (d := 106) (u := undef) s105 (by decide)
      replace hF := hF.put 106 (undef) (by decide)
      generalize b38.put (some 106) (undef) = b39 at *
      refine wpList_skip (wantsUn g107 hg105 s105) ?_
      rw [d107]
      have s107 := sl_same (v := undef) (fr_lt hF hN (show 107 < 118 by decide))
      replace s102x103 := sl_other (d := 107) (u := undef) s102x103 (by decide)
      replace s105 := sl_other (d := 107) (u := undef) s105 (by decide)
      replace hF := hF.put 107 (undef) (by decide)
      generalize b39.put (some 107) (undef) = b40 at *
      refine wpList_skip (wantsUn g108 hg105 s105) ?_
      rw [d108]
      have s108 := sl_same (v := undef) (fr_lt hF hN (show 108 < 118 by decide))
      replace s102x103 := sl_other (d := 108) (u := undef) s102x103 (by decide)
      replace s105 := sl_other (d := 108) (u := undef) s105 (by decide)
      replace hF := hF.put 108 (undef) (by decide)
      generalize b40.put (some 108) (undef) = b41 at *
      refine wpList_skip (wantsUn g109 hg105 s105) ?_
      rw [d109]
      have s109 := sl_same (v := undef) (fr_lt hF hN (show 109 < 118 by decide))
      replace s102x103 := sl_other (d := 109) (u := undef) s102x103 (by decide)
      replace s105 := sl_other (d := 109) (u := undef) s105 (by decide)
      replace hF := hF.put 109 (undef) (by decide)
      generalize b41.put (some 109) (undef) = b42 at *
      refine wpList_skip (wantsUn g110 hg105 s105) ?_
      rw [d110]
      have s110 := sl_same (v := undef) (fr_lt hF hN (show 110 < 118 by decide))
      replace s102x103 := sl_other (d := 110) (u := undef) s102x103 (by decide)
      replace s105 := sl_other (d := 110) (u := undef) s105 (by decide)
      replace hF := hF.put 110 (undef) (by decide)
      generalize b42.put (some 110) (undef) = b43 at *
      refine wpList_skip (wantsUn g111 hg110 s110) ?_
      rw [d111]
      have s111 := sl_same (v := undef) (fr_lt hF hN (show 111 < 118 by decide))
      replace s102x103 := sl_other (d := 111) (u := undef) s102x103 (by decide)
      replace s105 := sl_other (d := 111) (u := undef) s105 (by decide)
      replace s110 := sl_other (d := 111) (u := undef) s110 (by decide)
      replace hF := hF.put 111 (undef) (by decide)
      generalize b43.put (some 111) (undef) = b44 at *
      refine wpList_skip (wantsUn g112 hg110 s110) ?_
      rw [d112]
      have s112 := sl_same (v := undef) (fr_lt hF hN (show 112 < 118 by decide))
      replace s102x103 := sl_other (d := 112) (u := undef) s102x103 (by decide)
      replace s105 := sl_other (d := 112) (u := undef) s105 (by decide)
      replace s110 := sl_other (d := 112) (u := undef) s110 (by decide)
      replace hF := hF.put 112 (undef) (by decide)
      generalize b44.put (some 112) (undef) = b45 at *
      refine wpList_skip (wantsUn g113 hg110 s110) ?_
      rw [d113]
      have s113 := sl_same (v := undef) (fr_lt hF hN (show 113 < 118 by decide))
      replace s102x103 := sl_other (d := 113) (u := undef) s102x103 (by decide)
      replace s105 := sl_other (d := 113) (u := undef) s105 (by decide)
      replace s110 := sl_other (d := 113) (u := undef) s110 (by decide)
      replace hF := hF.put 113 (undef) (by decide)
      generalize b45.put (some 113) (undef) = b46 at *
      refine wpList_skip (wantsUn g114 hg110 s110) ?_
      rw [d114]
      have s114 := sl_same (v := undef) (fr_lt hF hN (show 114 < 118 by decide))
      replace s102x103 := sl_other (d := 114) (u := undef) s102x103 (by decide)
      replace s105 := sl_other (d := 114) (u := undef) s105 (by decide)
      replace s110 := sl_other (d := 114) (u := undef) s110 (by decide)
      replace hF := hF.put 114 (undef) (by decide)
      generalize b46.put (some 114) (undef) = b47 at *
      refine wpList_skip (wantsUn g115 hg105 s105) ?_
      rw [d115]
      have s115 := sl_same (v := undef) (fr_lt hF hN (show 115 < 118 by decide))
      replace s102x103 := sl_other (d := 115) (u := undef) s102x103 (by decide)
      replace s105 := sl_other (d := 115) (u := undef) s105 (by decide)
      replace hF := hF.put 115 (undef) (by decide)
      generalize b47.put (some 115) (undef) = b48 at *
      refine wpList_skip (wantsNo g116 hg102 s102x103 (by decide)) ?_
      rw [d116]
      have s116 := sl_same (v := undef) (fr_lt hF hN (show 116 < 118 by decide))
      replace s102x103 := sl_other (d := 116) (u := undef) s102x103 (by decide)
      replace hF := hF.put 116 (undef) (by decide)
      generalize b48.put (some 116) (undef) = b49 at *
      refine ls (v := .bool true) (wants0 g117) (run_pkT (by rw [e117]) (Sl_eval s102x103) (BigFrame.eval_const _ _)) ?_
      rw [d117]
      have s117 := sl_same (v := .bool true) (fr_lt hF hN (show 117 < 118 by decide))
      replace hF := hF.put 117 (.bool true) (by decide)
      generalize b49.put (some 117) (.bool true) = b50 at *
      exact h _ _ hW hF (s117.trans (by simp [hb103]))
  have seg1 : ∀ a1 w, Below w0.heap.size w0 w → Fr 69 118 a0 a1 → a1.tmps[80]? = some (.bool ((q70 && (q74 || q78)))) → wpList Try.prog ops Q (o81 :: o82 :: o83 :: o84 :: o85 :: o86 :: o87 :: o88 :: o89 :: o90 :: o91 :: o92 :: o93 :: o94 :: o95 :: o96 :: o97 :: o98 :: o99 :: o100 :: o101 :: o102 :: o103 :: o104 :: o105 :: o106 :: o107 :: o108 :: o109 :: o110 :: o111 :: o112 :: o113 :: o114 :: o115 :: o116 :: o117 :: rest) a1 w := by
    intro a1 w hW hF s80
    refine ls (v := .bool ((q70 && (q74 || q78)))) (wants0 g81) (run_mv (by rw [e81]) (Sl_eval s80)) ?_
    rw [d81]
    have s81 := sl_same (v := .bool ((q70 && (q74 || q78)))) (fr_lt hF hN (show 81 < 118 by decide))
    replace hF := hF.put 81 (.bool ((q70 && (q74 || q78)))) (by decide)
    generalize a1.put (some 81) (.bool ((q70 && (q74 || q78)))) = b1 at *
    rcases hb82 : (q70 && (q74 || q78)) with _ | _
    · have s81x82 := s81
      rw [hb82] at s81x82
      refine ls (v := .int .i64 K) (wants g82 hg81 s81x82) (run_mv (by rw [e82]) (Sl_eval ((hF.k 3 (by decide)).trans i3))) ?_
      rw [d82]
      have s82 := sl_same (v := .int .i64 K) (fr_lt hF hN (show 82 < 118 by decide))
      replace s81x82 := sl_other (d := 82) (u := .int .i64 K) s81x82 (by decide)
      replace hF := hF.put 82 (.int .i64 K) (by decide)
      generalize b1.put (some 82) (.int .i64 K) = b2 at *
      refine ls_call (v := .bool q83) (wants g83 hg81 s81x82) (run_call2 (f := 38) (x := .tmp 82) (y := .const (.int .u8 111)) Try.call38 (by rw [e83]) (Sl_eval s82) (BigFrame.eval_const _ _)) (law83 _ hW) ?_
      rw [d83]
      have s83 := sl_same (v := .bool q83) (fr_lt hF hN (show 83 < 118 by decide))
      replace s81x82 := sl_other (d := 83) (u := .bool q83) s81x82 (by decide)
      replace hF := hF.put 83 (.bool q83) (by decide)
      generalize b2.put (some 83) (.bool q83) = b3 at *
      refine ls (v := .bool q83) (wants g84 hg81 s81x82) (run_mv (by rw [e84]) (Sl_eval s83)) ?_
      rw [d84]
      have s84 := sl_same (v := .bool q83) (fr_lt hF hN (show 84 < 118 by decide))
      replace s81x82 := sl_other (d := 84) (u := .bool q83) s81x82 (by decide)
      replace hF := hF.put 84 (.bool q83) (by decide)
      generalize b3.put (some 84) (.bool q83) = b4 at *
      rcases hb85 : q83 with _ | _
      · have s84x85 := s84
        rw [hb85] at s84x85
        refine wpList_skip (wantsNo g85 hg84 s84x85 (by decide)) ?_
        rw [d85]
        have s85 := sl_same (v := undef) (fr_lt hF hN (show 85 < 118 by decide))
        replace s81x82 := sl_other (d := 85) (u := undef) s81x82 (by decide)
        replace s84x85 := sl_other (d := 85) (u := undef) s84x85 (by decide)
        replace hF := hF.put 85 (undef) (by decide)
        generalize b4.put (some 85) (undef) = b5 at *
        refine wpList_skip (wantsNo g86 hg84 s84x85 (by decide)) ?_
        rw [d86]
        have s86 := sl_same (v := undef) (fr_lt hF hN (show 86 < 118 by decide))
        replace s81x82 := sl_other (d := 86) (u := undef) s81x82 (by decide)
        replace s84x85 := sl_other (d := 86) (u := undef) s84x85 (by decide)
        replace hF := hF.put 86 (undef) (by decide)
        generalize b5.put (some 86) (undef) = b6 at *
        refine wpList_skip (wantsNo g87 hg84 s84x85 (by decide)) ?_
        rw [d87]
        have s87 := sl_same (v := undef) (fr_lt hF hN (show 87 < 118 by decide))
        replace s81x82 := sl_other (d := 87) (u := undef) s81x82 (by decide)
        replace s84x85 := sl_other (d := 87) (u := undef) s84x85 (by decide)
        replace hF := hF.put 87 (undef) (by decide)
        generalize b6.put (some 87) (undef) = b7 at *
        refine wpList_skip (wantsNo g88 hg84 s84x85 (by decide)) ?_
        rw [d88]
        have s88 := sl_same (v := undef) (fr_lt hF hN (show 88 < 118 by decide))
        replace s81x82 := sl_other (d := 88) (u := undef) s81x82 (by decide)
        replace s84x85 := sl_other (d := 88) (u := undef) s84x85 (by decide)
        replace hF := hF.put 88 (undef) (by decide)
        generalize b7.put (some 88) (undef) = b8 at *
        refine wpList_skip (wantsUn g89 hg88 s88) ?_
        rw [d89]
        have s89 := sl_same (v := undef) (fr_lt hF hN (show 89 < 118 by decide))
        replace s81x82 := sl_other (d := 89) (u := undef) s81x82 (by decide)
        replace s84x85 := sl_other (d := 89) (u := undef) s84x85 (by decide)
        replace s88 := sl_other (d := 89) (u := undef) s88 (by decide)
        replace hF := hF.put 89 (undef) (by decide)
        generalize b8.put (some 89) (undef) = b9 at *
        refine wpList_skip (wantsUn g90 hg88 s88) ?_
        rw [d90]
        have s90 := sl_same (v := undef) (fr_lt hF hN (show 90 < 118 by decide))
        replace s81x82 := sl_other (d := 90) (u := undef) s81x82 (by decide)
        replace s84x85 := sl_other (d := 90) (u := undef) s84x85 (by decide)
        replace s88 := sl_other (d := 90) (u := undef) s88 (by decide)
        replace hF := hF.put 90 (undef) (by decide)
        generalize b9.put (some 90) (undef) = b10 at *
        refine wpList_skip (wantsUn g91 hg88 s88) ?_
        rw [d91]
        have s91 := sl_same (v := undef) (fr_lt hF hN (show 91 < 118 by decide))
        replace s81x82 := sl_other (d := 91) (u := undef) s81x82 (by decide)
        replace s84x85 := sl_other (d := 91) (u := undef) s84x85 (by decide)
        replace s88 := sl_other (d := 91) (u := undef) s88 (by decide)
        replace hF := hF.put 91 (undef) (by decide)
        generalize b10.put (some 91) (undef) = b11 at *
        refine wpList_skip (wantsNo g92 hg84 s84x85 (by decide)) ?_
        rw [d92]
        have s92 := sl_same (v := undef) (fr_lt hF hN (show 92 < 118 by decide))
        replace s81x82 := sl_other (d := 92) (u := undef) s81x82 (by decide)
        replace s84x85 := sl_other (d := 92) (u := undef) s84x85 (by decide)
        replace hF := hF.put 92 (undef) (by decide)
        generalize b11.put (some 92) (undef) = b12 at *
        refine wpList_skip (wantsNo g93 hg84 s84x85 (by decide)) ?_
        rw [d93]
        have s93 := sl_same (v := undef) (fr_lt hF hN (show 93 < 118 by decide))
        replace s81x82 := sl_other (d := 93) (u := undef) s81x82 (by decide)
        replace s84x85 := sl_other (d := 93) (u := undef) s84x85 (by decide)
        replace hF := hF.put 93 (undef) (by decide)
        generalize b12.put (some 93) (undef) = b13 at *
        refine wpList_skip (wantsUn g94 hg93 s93) ?_
        rw [d94]
        have s94 := sl_same (v := undef) (fr_lt hF hN (show 94 < 118 by decide))
        replace s81x82 := sl_other (d := 94) (u := undef) s81x82 (by decide)
        replace s84x85 := sl_other (d := 94) (u := undef) s84x85 (by decide)
        replace s93 := sl_other (d := 94) (u := undef) s93 (by decide)
        replace hF := hF.put 94 (undef) (by decide)
        generalize b13.put (some 94) (undef) = b14 at *
        refine wpList_skip (wantsUn g95 hg93 s93) ?_
        rw [d95]
        have s95 := sl_same (v := undef) (fr_lt hF hN (show 95 < 118 by decide))
        replace s81x82 := sl_other (d := 95) (u := undef) s81x82 (by decide)
        replace s84x85 := sl_other (d := 95) (u := undef) s84x85 (by decide)
        replace s93 := sl_other (d := 95) (u := undef) s93 (by decide)
        replace hF := hF.put 95 (undef) (by decide)
        generalize b14.put (some 95) (undef) = b15 at *
        refine wpList_skip (wantsUn g96 hg93 s93) ?_
        rw [d96]
        have s96 := sl_same (v := undef) (fr_lt hF hN (show 96 < 118 by decide))
        replace s81x82 := sl_other (d := 96) (u := undef) s81x82 (by decide)
        replace s84x85 := sl_other (d := 96) (u := undef) s84x85 (by decide)
        replace s93 := sl_other (d := 96) (u := undef) s93 (by decide)
        replace s95 := sl_other (d := 96) (u := undef) s95 (by decide)
        replace hF := hF.put 96 (undef) (by decide)
        generalize b15.put (some 96) (undef) = b16 at *
        refine wpList_skip (wantsUn g97 hg93 s93) ?_
        rw [d97]
        have s97 := sl_same (v := undef) (fr_lt hF hN (show 97 < 118 by decide))
        replace s81x82 := sl_other (d := 97) (u := undef) s81x82 (by decide)
        replace s84x85 := sl_other (d := 97) (u := undef) s84x85 (by decide)
        replace s93 := sl_other (d := 97) (u := undef) s93 (by decide)
        replace s95 := sl_other (d := 97) (u := undef) s95 (by decide)
        replace hF := hF.put 97 (undef) (by decide)
        generalize b16.put (some 97) (undef) = b17 at *
        refine wpList_skip (wantsUn g98 hg93 s93) ?_
        rw [d98]
        have s98 := sl_same (v := undef) (fr_lt hF hN (show 98 < 118 by decide))
        replace s81x82 := sl_other (d := 98) (u := undef) s81x82 (by decide)
        replace s84x85 := sl_other (d := 98) (u := undef) s84x85 (by decide)
        replace s93 := sl_other (d := 98) (u := undef) s93 (by decide)
        replace hF := hF.put 98 (undef) (by decide)
        generalize b17.put (some 98) (undef) = b18 at *
        refine wpList_skip (wantsNo g99 hg84 s84x85 (by decide)) ?_
        rw [d99]
        have s99 := sl_same (v := undef) (fr_lt hF hN (show 99 < 118 by decide))
        replace s81x82 := sl_other (d := 99) (u := undef) s81x82 (by decide)
        replace s84x85 := sl_other (d := 99) (u := undef) s84x85 (by decide)
        replace hF := hF.put 99 (undef) (by decide)
        generalize b18.put (some 99) (undef) = b19 at *
        refine ls (v := .bool false) (wants g100 hg81 s81x82) (run_pkF (by rw [e100]) (Sl_eval s84x85) (BigFrame.eval_const _ _)) ?_
        rw [d100]
        have s100 := sl_same (v := .bool false) (fr_lt hF hN (show 100 < 118 by decide))
        replace s81x82 := sl_other (d := 100) (u := .bool false) s81x82 (by decide)
        replace hF := hF.put 100 (.bool false) (by decide)
        generalize b19.put (some 100) (.bool false) = b20 at *
        refine ls (v := .bool false) (wants0 g101) (run_pkF (by rw [e101]) (Sl_eval s81x82) (Sl_eval s100)) ?_
        rw [d101]
        have s101 := sl_same (v := .bool false) (fr_lt hF hN (show 101 < 118 by decide))
        replace hF := hF.put 101 (.bool false) (by decide)
        generalize b20.put (some 101) (.bool false) = b21 at *
        exact seg2 _ _ hW hF (s101.trans (by simp [hb82, hb85]))
      · have s84x85 := s84
        rw [hb85] at s84x85
        refine ls (v := .pointer (some ⟨A, 10, none⟩)) (wants g85 hg84 s84x85) (run_fa (by rw [e85]) (Sl_eval ((hF.k 1 (by decide)).trans i1)) (by decide)) ?_
        rw [d85]
        have s85 := sl_same (v := .pointer (some ⟨A, 10, none⟩)) (fr_lt hF hN (show 85 < 118 by decide))
        replace s81x82 := sl_other (d := 85) (u := .pointer (some ⟨A, 10, none⟩)) s81x82 (by decide)
        replace s84x85 := sl_other (d := 85) (u := .pointer (some ⟨A, 10, none⟩)) s84x85 (by decide)
        replace hF := hF.put 85 (.pointer (some ⟨A, 10, none⟩)) (by decide)
        generalize b4.put (some 85) (.pointer (some ⟨A, 10, none⟩)) = b22 at *
        refine ls (v := .int .i64 ((F 10))) (wants g86 hg84 s84x85) (run_ldi (by rw [e86]) (Sl_eval s85) (hM _ hW).c10 (Or.inl ⟨rfl, rfl⟩)) ?_
        rw [d86]
        have s86 := sl_same (v := .int .i64 ((F 10))) (fr_lt hF hN (show 86 < 118 by decide))
        replace s81x82 := sl_other (d := 86) (u := .int .i64 ((F 10))) s81x82 (by decide)
        replace s84x85 := sl_other (d := 86) (u := .int .i64 ((F 10))) s84x85 (by decide)
        replace hF := hF.put 86 (.int .i64 ((F 10))) (by decide)
        generalize b22.put (some 86) (.int .i64 ((F 10))) = b23 at *
        refine ls (v := .bool q87) (wants g87 hg84 s84x85) ((run_lss (by rw [e87]) (Sl_eval s86) (BigFrame.eval_const _ _) (Or.inl ⟨rfl, rfl⟩)).trans (by rw [h87])) ?_
        rw [d87]
        have s87 := sl_same (v := .bool q87) (fr_lt hF hN (show 87 < 118 by decide))
        replace s81x82 := sl_other (d := 87) (u := .bool q87) s81x82 (by decide)
        replace s84x85 := sl_other (d := 87) (u := .bool q87) s84x85 (by decide)
        replace hF := hF.put 87 (.bool q87) (by decide)
        generalize b23.put (some 87) (.bool q87) = b24 at *
        refine ls (v := .bool q87) (wants g88 hg84 s84x85) (run_mv (by rw [e88]) (Sl_eval s87)) ?_
        rw [d88]
        have s88 := sl_same (v := .bool q87) (fr_lt hF hN (show 88 < 118 by decide))
        replace s81x82 := sl_other (d := 88) (u := .bool q87) s81x82 (by decide)
        replace s84x85 := sl_other (d := 88) (u := .bool q87) s84x85 (by decide)
        replace hF := hF.put 88 (.bool q87) (by decide)
        generalize b24.put (some 88) (.bool q87) = b25 at *
        rcases hb89 : q87 with _ | _
        · have s88x89 := s88
          rw [hb89] at s88x89
          refine ls (v := .pointer (some ⟨A, 10, none⟩)) (wants g89 hg88 s88x89) (run_fa (by rw [e89]) (Sl_eval ((hF.k 1 (by decide)).trans i1)) (by decide)) ?_
          rw [d89]
          have s89 := sl_same (v := .pointer (some ⟨A, 10, none⟩)) (fr_lt hF hN (show 89 < 118 by decide))
          replace s81x82 := sl_other (d := 89) (u := .pointer (some ⟨A, 10, none⟩)) s81x82 (by decide)
          replace s84x85 := sl_other (d := 89) (u := .pointer (some ⟨A, 10, none⟩)) s84x85 (by decide)
          replace s88x89 := sl_other (d := 89) (u := .pointer (some ⟨A, 10, none⟩)) s88x89 (by decide)
          replace hF := hF.put 89 (.pointer (some ⟨A, 10, none⟩)) (by decide)
          generalize b25.put (some 89) (.pointer (some ⟨A, 10, none⟩)) = b26 at *
          refine ls (v := .int .i64 ((F 10))) (wants g90 hg88 s88x89) (run_ldi (by rw [e90]) (Sl_eval s89) (hM _ hW).c10 (Or.inl ⟨rfl, rfl⟩)) ?_
          rw [d90]
          have s90 := sl_same (v := .int .i64 ((F 10))) (fr_lt hF hN (show 90 < 118 by decide))
          replace s81x82 := sl_other (d := 90) (u := .int .i64 ((F 10))) s81x82 (by decide)
          replace s84x85 := sl_other (d := 90) (u := .int .i64 ((F 10))) s84x85 (by decide)
          replace s88x89 := sl_other (d := 90) (u := .int .i64 ((F 10))) s88x89 (by decide)
          replace hF := hF.put 90 (.int .i64 ((F 10))) (by decide)
          generalize b26.put (some 90) (.int .i64 ((F 10))) = b27 at *
          refine ls (v := .bool q91) (wants g91 hg88 s88x89) ((run_gtr (by rw [e91]) (Sl_eval s90) (BigFrame.eval_const _ _) (Or.inl ⟨rfl, rfl⟩)).trans (by rw [h91])) ?_
          rw [d91]
          have s91 := sl_same (v := .bool q91) (fr_lt hF hN (show 91 < 118 by decide))
          replace s81x82 := sl_other (d := 91) (u := .bool q91) s81x82 (by decide)
          replace s84x85 := sl_other (d := 91) (u := .bool q91) s84x85 (by decide)
          replace s88x89 := sl_other (d := 91) (u := .bool q91) s88x89 (by decide)
          replace hF := hF.put 91 (.bool q91) (by decide)
          generalize b27.put (some 91) (.bool q91) = b28 at *
          refine ls (v := .bool q91) (wants g92 hg84 s84x85) (run_pkF (by rw [e92]) (Sl_eval s88x89) (Sl_eval s91)) ?_
          rw [d92]
          have s92 := sl_same (v := .bool q91) (fr_lt hF hN (show 92 < 118 by decide))
          replace s81x82 := sl_other (d := 92) (u := .bool q91) s81x82 (by decide)
          replace s84x85 := sl_other (d := 92) (u := .bool q91) s84x85 (by decide)
          replace hF := hF.put 92 (.bool q91) (by decide)
          generalize b28.put (some 92) (.bool q91) = b29 at *
          refine ls (v := .bool q91) (wants g93 hg84 s84x85) (run_mv (by rw [e93]) (Sl_eval s92)) ?_
          rw [d93]
          have s93 := sl_same (v := .bool q91) (fr_lt hF hN (show 93 < 118 by decide))
          replace s81x82 := sl_other (d := 93) (u := .bool q91) s81x82 (by decide)
          replace s84x85 := sl_other (d := 93) (u := .bool q91) s84x85 (by decide)
          replace hF := hF.put 93 (.bool q91) (by decide)
          generalize b29.put (some 93) (.bool q91) = b30 at *
          rcases hb94 : q91 with _ | _
          · have s93x94 := s93
            rw [hb94] at s93x94
            refine ls (v := .pointer (some ⟨A, 10, none⟩)) (wants g94 hg93 s93x94) (run_fa (by rw [e94]) (Sl_eval ((hF.k 1 (by decide)).trans i1)) (by decide)) ?_
            rw [d94]
            have s94 := sl_same (v := .pointer (some ⟨A, 10, none⟩)) (fr_lt hF hN (show 94 < 118 by decide))
            replace s81x82 := sl_other (d := 94) (u := .pointer (some ⟨A, 10, none⟩)) s81x82 (by decide)
            replace s84x85 := sl_other (d := 94) (u := .pointer (some ⟨A, 10, none⟩)) s84x85 (by decide)
            replace s93x94 := sl_other (d := 94) (u := .pointer (some ⟨A, 10, none⟩)) s93x94 (by decide)
            replace hF := hF.put 94 (.pointer (some ⟨A, 10, none⟩)) (by decide)
            generalize b30.put (some 94) (.pointer (some ⟨A, 10, none⟩)) = b31 at *
            refine ls (v := .int .i64 ((F 10))) (wants g95 hg93 s93x94) (run_ldi (by rw [e95]) (Sl_eval s94) (hM _ hW).c10 (Or.inl ⟨rfl, rfl⟩)) ?_
            rw [d95]
            have s95 := sl_same (v := .int .i64 ((F 10))) (fr_lt hF hN (show 95 < 118 by decide))
            replace s81x82 := sl_other (d := 95) (u := .int .i64 ((F 10))) s81x82 (by decide)
            replace s84x85 := sl_other (d := 95) (u := .int .i64 ((F 10))) s84x85 (by decide)
            replace s93x94 := sl_other (d := 95) (u := .int .i64 ((F 10))) s93x94 (by decide)
            replace hF := hF.put 95 (.int .i64 ((F 10))) (by decide)
            generalize b31.put (some 95) (.int .i64 ((F 10))) = b32 at *
            refine ls (v := .pointer (some ⟨A, 9, none⟩)) (wants g96 hg93 s93x94) (run_fa (by rw [e96]) (Sl_eval ((hF.k 1 (by decide)).trans i1)) (by decide)) ?_
            rw [d96]
            have s96 := sl_same (v := .pointer (some ⟨A, 9, none⟩)) (fr_lt hF hN (show 96 < 118 by decide))
            replace s81x82 := sl_other (d := 96) (u := .pointer (some ⟨A, 9, none⟩)) s81x82 (by decide)
            replace s84x85 := sl_other (d := 96) (u := .pointer (some ⟨A, 9, none⟩)) s84x85 (by decide)
            replace s93x94 := sl_other (d := 96) (u := .pointer (some ⟨A, 9, none⟩)) s93x94 (by decide)
            replace s95 := sl_other (d := 96) (u := .pointer (some ⟨A, 9, none⟩)) s95 (by decide)
            replace hF := hF.put 96 (.pointer (some ⟨A, 9, none⟩)) (by decide)
            generalize b32.put (some 96) (.pointer (some ⟨A, 9, none⟩)) = b33 at *
            refine ls (v := .int .i64 ((F 9))) (wants g97 hg93 s93x94) (run_ldi (by rw [e97]) (Sl_eval s96) (hM _ hW).c9 (Or.inl ⟨rfl, rfl⟩)) ?_
            rw [d97]
            have s97 := sl_same (v := .int .i64 ((F 9))) (fr_lt hF hN (show 97 < 118 by decide))
            replace s81x82 := sl_other (d := 97) (u := .int .i64 ((F 9))) s81x82 (by decide)
            replace s84x85 := sl_other (d := 97) (u := .int .i64 ((F 9))) s84x85 (by decide)
            replace s93x94 := sl_other (d := 97) (u := .int .i64 ((F 9))) s93x94 (by decide)
            replace s95 := sl_other (d := 97) (u := .int .i64 ((F 9))) s95 (by decide)
            replace hF := hF.put 97 (.int .i64 ((F 9))) (by decide)
            generalize b33.put (some 97) (.int .i64 ((F 9))) = b34 at *
            refine ls (v := .bool q98) (wants g98 hg93 s93x94) ((run_leq (by rw [e98]) (Sl_eval s95) (Sl_eval s97) (Or.inl ⟨rfl, rfl⟩)).trans (by rw [h98])) ?_
            rw [d98]
            have s98 := sl_same (v := .bool q98) (fr_lt hF hN (show 98 < 118 by decide))
            replace s81x82 := sl_other (d := 98) (u := .bool q98) s81x82 (by decide)
            replace s84x85 := sl_other (d := 98) (u := .bool q98) s84x85 (by decide)
            replace s93x94 := sl_other (d := 98) (u := .bool q98) s93x94 (by decide)
            replace hF := hF.put 98 (.bool q98) (by decide)
            generalize b34.put (some 98) (.bool q98) = b35 at *
            refine ls (v := .bool q98) (wants g99 hg84 s84x85) (run_pkF (by rw [e99]) (Sl_eval s93x94) (Sl_eval s98)) ?_
            rw [d99]
            have s99 := sl_same (v := .bool q98) (fr_lt hF hN (show 99 < 118 by decide))
            replace s81x82 := sl_other (d := 99) (u := .bool q98) s81x82 (by decide)
            replace s84x85 := sl_other (d := 99) (u := .bool q98) s84x85 (by decide)
            replace hF := hF.put 99 (.bool q98) (by decide)
            generalize b35.put (some 99) (.bool q98) = b36 at *
            refine ls (v := .bool q98) (wants g100 hg81 s81x82) (run_pkT (by rw [e100]) (Sl_eval s84x85) (Sl_eval s99)) ?_
            rw [d100]
            have s100 := sl_same (v := .bool q98) (fr_lt hF hN (show 100 < 118 by decide))
            replace s81x82 := sl_other (d := 100) (u := .bool q98) s81x82 (by decide)
            replace hF := hF.put 100 (.bool q98) (by decide)
            generalize b36.put (some 100) (.bool q98) = b37 at *
            refine ls (v := .bool q98) (wants0 g101) (run_pkF (by rw [e101]) (Sl_eval s81x82) (Sl_eval s100)) ?_
            rw [d101]
            have s101 := sl_same (v := .bool q98) (fr_lt hF hN (show 101 < 118 by decide))
            replace hF := hF.put 101 (.bool q98) (by decide)
            generalize b37.put (some 101) (.bool q98) = b38 at *
            exact seg2 _ _ hW hF (s101.trans (by simp [hb82, hb85, hb89, hb94]))
          · have s93x94 := s93
            rw [hb94] at s93x94
            refine wpList_skip (wantsNo g94 hg93 s93x94 (by decide)) ?_
            rw [d94]
            have s94 := sl_same (v := undef) (fr_lt hF hN (show 94 < 118 by decide))
            replace s81x82 := sl_other (d := 94) (u := undef) s81x82 (by decide)
            replace s84x85 := sl_other (d := 94) (u := undef) s84x85 (by decide)
            replace s93x94 := sl_other (d := 94) (u := undef) s93x94 (by decide)
            replace hF := hF.put 94 (undef) (by decide)
            generalize b30.put (some 94) (undef) = b39 at *
            refine wpList_skip (wantsNo g95 hg93 s93x94 (by decide)) ?_
            rw [d95]
            have s95 := sl_same (v := undef) (fr_lt hF hN (show 95 < 118 by decide))
            replace s81x82 := sl_other (d := 95) (u := undef) s81x82 (by decide)
            replace s84x85 := sl_other (d := 95) (u := undef) s84x85 (by decide)
            replace s93x94 := sl_other (d := 95) (u := undef) s93x94 (by decide)
            replace hF := hF.put 95 (undef) (by decide)
            generalize b39.put (some 95) (undef) = b40 at *
            refine wpList_skip (wantsNo g96 hg93 s93x94 (by decide)) ?_
            rw [d96]
            have s96 := sl_same (v := undef) (fr_lt hF hN (show 96 < 118 by decide))
            replace s81x82 := sl_other (d := 96) (u := undef) s81x82 (by decide)
            replace s84x85 := sl_other (d := 96) (u := undef) s84x85 (by decide)
            replace s93x94 := sl_other (d := 96) (u := undef) s93x94 (by decide)
            replace s95 := sl_other (d := 96) (u := undef) s95 (by decide)
            replace hF := hF.put 96 (undef) (by decide)
            generalize b40.put (some 96) (undef) = b41 at *
            refine wpList_skip (wantsNo g97 hg93 s93x94 (by decide)) ?_
            rw [d97]
            have s97 := sl_same (v := undef) (fr_lt hF hN (show 97 < 118 by decide))
            replace s81x82 := sl_other (d := 97) (u := undef) s81x82 (by decide)
            replace s84x85 := sl_other (d := 97) (u := undef) s84x85 (by decide)
            replace s93x94 := sl_other (d := 97) (u := undef) s93x94 (by decide)
            replace s95 := sl_other (d := 97) (u := undef) s95 (by decide)
            replace hF := hF.put 97 (undef) (by decide)
            generalize b41.put (some 97) (undef) = b42 at *
            refine wpList_skip (wantsNo g98 hg93 s93x94 (by decide)) ?_
            rw [d98]
            have s98 := sl_same (v := undef) (fr_lt hF hN (show 98 < 118 by decide))
            replace s81x82 := sl_other (d := 98) (u := undef) s81x82 (by decide)
            replace s84x85 := sl_other (d := 98) (u := undef) s84x85 (by decide)
            replace s93x94 := sl_other (d := 98) (u := undef) s93x94 (by decide)
            replace hF := hF.put 98 (undef) (by decide)
            generalize b42.put (some 98) (undef) = b43 at *
            refine ls (v := .bool true) (wants g99 hg84 s84x85) (run_pkT (by rw [e99]) (Sl_eval s93x94) (BigFrame.eval_const _ _)) ?_
            rw [d99]
            have s99 := sl_same (v := .bool true) (fr_lt hF hN (show 99 < 118 by decide))
            replace s81x82 := sl_other (d := 99) (u := .bool true) s81x82 (by decide)
            replace s84x85 := sl_other (d := 99) (u := .bool true) s84x85 (by decide)
            replace hF := hF.put 99 (.bool true) (by decide)
            generalize b43.put (some 99) (.bool true) = b44 at *
            refine ls (v := .bool true) (wants g100 hg81 s81x82) (run_pkT (by rw [e100]) (Sl_eval s84x85) (Sl_eval s99)) ?_
            rw [d100]
            have s100 := sl_same (v := .bool true) (fr_lt hF hN (show 100 < 118 by decide))
            replace s81x82 := sl_other (d := 100) (u := .bool true) s81x82 (by decide)
            replace hF := hF.put 100 (.bool true) (by decide)
            generalize b44.put (some 100) (.bool true) = b45 at *
            refine ls (v := .bool true) (wants0 g101) (run_pkF (by rw [e101]) (Sl_eval s81x82) (Sl_eval s100)) ?_
            rw [d101]
            have s101 := sl_same (v := .bool true) (fr_lt hF hN (show 101 < 118 by decide))
            replace hF := hF.put 101 (.bool true) (by decide)
            generalize b45.put (some 101) (.bool true) = b46 at *
            exact seg2 _ _ hW hF (s101.trans (by simp [hb82, hb85, hb89, hb94]))
        · have s88x89 := s88
          rw [hb89] at s88x89
          refine wpList_skip (wantsNo g89 hg88 s88x89 (by decide)) ?_
          rw [d89]
          have s89 := sl_same (v := undef) (fr_lt hF hN (show 89 < 118 by decide))
          replace s81x82 := sl_other (d := 89) (u := undef) s81x82 (by decide)
          replace s84x85 := sl_other (d := 89) (u := undef) s84x85 (by decide)
          replace s88x89 := sl_other (d := 89) (u := undef) s88x89 (by decide)
          replace hF := hF.put 89 (undef) (by decide)
          generalize b25.put (some 89) (undef) = b47 at *
          refine wpList_skip (wantsNo g90 hg88 s88x89 (by decide)) ?_
          rw [d90]
          have s90 := sl_same (v := undef) (fr_lt hF hN (show 90 < 118 by decide))
          replace s81x82 := sl_other (d := 90) (u := undef) s81x82 (by decide)
          replace s84x85 := sl_other (d := 90) (u := undef) s84x85 (by decide)
          replace s88x89 := sl_other (d := 90) (u := undef) s88x89 (by decide)
          replace hF := hF.put 90 (undef) (by decide)
          generalize b47.put (some 90) (undef) = b48 at *
          refine wpList_skip (wantsNo g91 hg88 s88x89 (by decide)) ?_
          rw [d91]
          have s91 := sl_same (v := undef) (fr_lt hF hN (show 91 < 118 by decide))
          replace s81x82 := sl_other (d := 91) (u := undef) s81x82 (by decide)
          replace s84x85 := sl_other (d := 91) (u := undef) s84x85 (by decide)
          replace s88x89 := sl_other (d := 91) (u := undef) s88x89 (by decide)
          replace hF := hF.put 91 (undef) (by decide)
          generalize b48.put (some 91) (undef) = b49 at *
          refine ls (v := .bool true) (wants g92 hg84 s84x85) (run_pkT (by rw [e92]) (Sl_eval s88x89) (BigFrame.eval_const _ _)) ?_
          rw [d92]
          have s92 := sl_same (v := .bool true) (fr_lt hF hN (show 92 < 118 by decide))
          replace s81x82 := sl_other (d := 92) (u := .bool true) s81x82 (by decide)
          replace s84x85 := sl_other (d := 92) (u := .bool true) s84x85 (by decide)
          replace hF := hF.put 92 (.bool true) (by decide)
          generalize b49.put (some 92) (.bool true) = b50 at *
          refine ls (v := .bool true) (wants g93 hg84 s84x85) (run_mv (by rw [e93]) (Sl_eval s92)) ?_
          rw [d93]
          have s93 := sl_same (v := .bool true) (fr_lt hF hN (show 93 < 118 by decide))
          replace s81x82 := sl_other (d := 93) (u := .bool true) s81x82 (by decide)
          replace s84x85 := sl_other (d := 93) (u := .bool true) s84x85 (by decide)
          replace hF := hF.put 93 (.bool true) (by decide)
          generalize b50.put (some 93) (.bool true) = b51 at *
          refine wpList_skip (wantsNo g94 hg93 s93 (by decide)) ?_
          rw [d94]
          have s94 := sl_same (v := undef) (fr_lt hF hN (show 94 < 118 by decide))
          replace s81x82 := sl_other (d := 94) (u := undef) s81x82 (by decide)
          replace s84x85 := sl_other (d := 94) (u := undef) s84x85 (by decide)
          replace s93 := sl_other (d := 94) (u := undef) s93 (by decide)
          replace hF := hF.put 94 (undef) (by decide)
          generalize b51.put (some 94) (undef) = b52 at *
          refine wpList_skip (wantsNo g95 hg93 s93 (by decide)) ?_
          rw [d95]
          have s95 := sl_same (v := undef) (fr_lt hF hN (show 95 < 118 by decide))
          replace s81x82 := sl_other (d := 95) (u := undef) s81x82 (by decide)
          replace s84x85 := sl_other (d := 95) (u := undef) s84x85 (by decide)
          replace s93 := sl_other (d := 95) (u := undef) s93 (by decide)
          replace hF := hF.put 95 (undef) (by decide)
          generalize b52.put (some 95) (undef) = b53 at *
          refine wpList_skip (wantsNo g96 hg93 s93 (by decide)) ?_
          rw [d96]
          have s96 := sl_same (v := undef) (fr_lt hF hN (show 96 < 118 by decide))
          replace s81x82 := sl_other (d := 96) (u := undef) s81x82 (by decide)
          replace s84x85 := sl_other (d := 96) (u := undef) s84x85 (by decide)
          replace s93 := sl_other (d := 96) (u := undef) s93 (by decide)
          replace s95 := sl_other (d := 96) (u := undef) s95 (by decide)
          replace hF := hF.put 96 (undef) (by decide)
          generalize b53.put (some 96) (undef) = b54 at *
          refine wpList_skip (wantsNo g97 hg93 s93 (by decide)) ?_
          rw [d97]
          have s97 := sl_same (v := undef) (fr_lt hF hN (show 97 < 118 by decide))
          replace s81x82 := sl_other (d := 97) (u := undef) s81x82 (by decide)
          replace s84x85 := sl_other (d := 97) (u := undef) s84x85 (by decide)
          replace s93 := sl_other (d := 97) (u := undef) s93 (by decide)
          replace s95 := sl_other (d := 97) (u := undef) s95 (by decide)
          replace hF := hF.put 97 (undef) (by decide)
          generalize b54.put (some 97) (undef) = b55 at *
          refine wpList_skip (wantsNo g98 hg93 s93 (by decide)) ?_
          rw [d98]
          have s98 := sl_same (v := undef) (fr_lt hF hN (show 98 < 118 by decide))
          replace s81x82 := sl_other (d := 98) (u := undef) s81x82 (by decide)
          replace s84x85 := sl_other (d := 98) (u := undef) s84x85 (by decide)
          replace s93 := sl_other (d := 98) (u := undef) s93 (by decide)
          replace hF := hF.put 98 (undef) (by decide)
          generalize b55.put (some 98) (undef) = b56 at *
          refine ls (v := .bool true) (wants g99 hg84 s84x85) (run_pkT (by rw [e99]) (Sl_eval s93) (BigFrame.eval_const _ _)) ?_
          rw [d99]
          have s99 := sl_same (v := .bool true) (fr_lt hF hN (show 99 < 118 by decide))
          replace s81x82 := sl_other (d := 99) (u := .bool true) s81x82 (by decide)
          replace s84x85 := sl_other (d := 99) (u := .bool true) s84x85 (by decide)
          replace hF := hF.put 99 (.bool true) (by decide)
          generalize b56.put (some 99) (.bool true) = b57 at *
          refine ls (v := .bool true) (wants g100 hg81 s81x82) (run_pkT (by rw [e100]) (Sl_eval s84x85) (Sl_eval s99)) ?_
          rw [d100]
          have s100 := sl_same (v := .bool true) (fr_lt hF hN (show 100 < 118 by decide))
          replace s81x82 := sl_other (d := 100) (u := .bool true) s81x82 (by decide)
          replace hF := hF.put 100 (.bool true) (by decide)
          generalize b57.put (some 100) (.bool true) = b58 at *
          refine ls (v := .bool true) (wants0 g101) (run_pkF (by rw [e101]) (Sl_eval s81x82) (Sl_eval s100)) ?_
          rw [d101]
          have s101 := sl_same (v := .bool true) (fr_lt hF hN (show 101 < 118 by decide))
          replace hF := hF.put 101 (.bool true) (by decide)
          generalize b58.put (some 101) (.bool true) = b59 at *
          exact seg2 _ _ hW hF (s101.trans (by simp [hb82, hb85, hb89]))
    · have s81x82 := s81
      rw [hb82] at s81x82
      refine wpList_skip (wantsNo g82 hg81 s81x82 (by decide)) ?_
      rw [d82]
      have s82 := sl_same (v := undef) (fr_lt hF hN (show 82 < 118 by decide))
      replace s81x82 := sl_other (d := 82) (u := undef) s81x82 (by decide)
      replace hF := hF.put 82 (undef) (by decide)
      generalize b1.put (some 82) (undef) = b60 at *
      refine wpList_skip (wantsNo g83 hg81 s81x82 (by decide)) ?_
      rw [d83]
      have s83 := sl_same (v := undef) (fr_lt hF hN (show 83 < 118 by decide))
      replace s81x82 := sl_other (d := 83) (u := undef) s81x82 (by decide)
      replace hF := hF.put 83 (undef) (by decide)
      generalize b60.put (some 83) (undef) = b61 at *
      refine wpList_skip (wantsNo g84 hg81 s81x82 (by decide)) ?_
      rw [d84]
      have s84 := sl_same (v := undef) (fr_lt hF hN (show 84 < 118 by decide))
      replace s81x82 := sl_other (d := 84) (u := undef) s81x82 (by decide)
      replace hF := hF.put 84 (undef) (by decide)
      generalize b61.put (some 84) (undef) = b62 at *
      refine wpList_skip (wantsUn g85 hg84 s84) ?_
      rw [d85]
      have s85 := sl_same (v := undef) (fr_lt hF hN (show 85 < 118 by decide))
      replace s81x82 := sl_other (d := 85) (u := undef) s81x82 (by decide)
      replace s84 := sl_other (d := 85) (u := undef) s84 (by decide)
      replace hF := hF.put 85 (undef) (by decide)
      generalize b62.put (some 85) (undef) = b63 at *
      refine wpList_skip (wantsUn g86 hg84 s84) ?_
      rw [d86]
      have s86 := sl_same (v := undef) (fr_lt hF hN (show 86 < 118 by decide))
      replace s81x82 := sl_other (d := 86) (u := undef) s81x82 (by decide)
      replace s84 := sl_other (d := 86) (u := undef) s84 (by decide)
      replace hF := hF.put 86 (undef) (by decide)
      generalize b63.put (some 86) (undef) = b64 at *
      refine wpList_skip (wantsUn g87 hg84 s84) ?_
      rw [d87]
      have s87 := sl_same (v := undef) (fr_lt hF hN (show 87 < 118 by decide))
      replace s81x82 := sl_other (d := 87) (u := undef) s81x82 (by decide)
      replace s84 := sl_other (d := 87) (u := undef) s84 (by decide)
      replace hF := hF.put 87 (undef) (by decide)
      generalize b64.put (some 87) (undef) = b65 at *
      refine wpList_skip (wantsUn g88 hg84 s84) ?_
      rw [d88]
      have s88 := sl_same (v := undef) (fr_lt hF hN (show 88 < 118 by decide))
      replace s81x82 := sl_other (d := 88) (u := undef) s81x82 (by decide)
      replace s84 := sl_other (d := 88) (u := undef) s84 (by decide)
      replace hF := hF.put 88 (undef) (by decide)
      generalize b65.put (some 88) (undef) = b66 at *
      refine wpList_skip (wantsUn g89 hg88 s88) ?_
      rw [d89]
      have s89 := sl_same (v := undef) (fr_lt hF hN (show 89 < 118 by decide))
      replace s81x82 := sl_other (d := 89) (u := undef) s81x82 (by decide)
      replace s84 := sl_other (d := 89) (u := undef) s84 (by decide)
      replace s88 := sl_other (d := 89) (u := undef) s88 (by decide)
      replace hF := hF.put 89 (undef) (by decide)
      generalize b66.put (some 89) (undef) = b67 at *
      refine wpList_skip (wantsUn g90 hg88 s88) ?_
      rw [d90]
      have s90 := sl_same (v := undef) (fr_lt hF hN (show 90 < 118 by decide))
      replace s81x82 := sl_other (d := 90) (u := undef) s81x82 (by decide)
      replace s84 := sl_other (d := 90) (u := undef) s84 (by decide)
      replace s88 := sl_other (d := 90) (u := undef) s88 (by decide)
      replace hF := hF.put 90 (undef) (by decide)
      generalize b67.put (some 90) (undef) = b68 at *
      refine wpList_skip (wantsUn g91 hg88 s88) ?_
      rw [d91]
      have s91 := sl_same (v := undef) (fr_lt hF hN (show 91 < 118 by decide))
      replace s81x82 := sl_other (d := 91) (u := undef) s81x82 (by decide)
      replace s84 := sl_other (d := 91) (u := undef) s84 (by decide)
      replace s88 := sl_other (d := 91) (u := undef) s88 (by decide)
      replace hF := hF.put 91 (undef) (by decide)
      generalize b68.put (some 91) (undef) = b69 at *
      refine wpList_skip (wantsUn g92 hg84 s84) ?_
      rw [d92]
      have s92 := sl_same (v := undef) (fr_lt hF hN (show 92 < 118 by decide))
      replace s81x82 := sl_other (d := 92) (u := undef) s81x82 (by decide)
      replace s84 := sl_other (d := 92) (u := undef) s84 (by decide)
      replace hF := hF.put 92 (undef) (by decide)
      generalize b69.put (some 92) (undef) = b70 at *
      refine wpList_skip (wantsUn g93 hg84 s84) ?_
      rw [d93]
      have s93 := sl_same (v := undef) (fr_lt hF hN (show 93 < 118 by decide))
      replace s81x82 := sl_other (d := 93) (u := undef) s81x82 (by decide)
      replace s84 := sl_other (d := 93) (u := undef) s84 (by decide)
      replace hF := hF.put 93 (undef) (by decide)
      generalize b70.put (some 93) (undef) = b71 at *
      refine wpList_skip (wantsUn g94 hg93 s93) ?_
      rw [d94]
      have s94 := sl_same (v := undef) (fr_lt hF hN (show 94 < 118 by decide))
      replace s81x82 := sl_other (d := 94) (u := undef) s81x82 (by decide)
      replace s84 := sl_other (d := 94) (u := undef) s84 (by decide)
      replace s93 := sl_other (d := 94) (u := undef) s93 (by decide)
      replace hF := hF.put 94 (undef) (by decide)
      generalize b71.put (some 94) (undef) = b72 at *
      refine wpList_skip (wantsUn g95 hg93 s93) ?_
      rw [d95]
      have s95 := sl_same (v := undef) (fr_lt hF hN (show 95 < 118 by decide))
      replace s81x82 := sl_other (d := 95) (u := undef) s81x82 (by decide)
      replace s84 := sl_other (d := 95) (u := undef) s84 (by decide)
      replace s93 := sl_other (d := 95) (u := undef) s93 (by decide)
      replace hF := hF.put 95 (undef) (by decide)
      generalize b72.put (some 95) (undef) = b73 at *
      refine wpList_skip (wantsUn g96 hg93 s93) ?_
      rw [d96]
      have s96 := sl_same (v := undef) (fr_lt hF hN (show 96 < 118 by decide))
      replace s81x82 := sl_other (d := 96) (u := undef) s81x82 (by decide)
      replace s84 := sl_other (d := 96) (u := undef) s84 (by decide)
      replace s93 := sl_other (d := 96) (u := undef) s93 (by decide)
      replace s95 := sl_other (d := 96) (u := undef) s95 (by decide)
      replace hF := hF.put 96 (undef) (by decide)
      generalize b73.put (some 96) (undef) = b74 at *
      refine wpList_skip (wantsUn g97 hg93 s93) ?_
      rw [d97]
      have s97 := sl_same (v := undef) (fr_lt hF hN (show 97 < 118 by decide))
      replace s81x82 := sl_other (d := 97) (u := undef) s81x82 (by decide)
      replace s84 := sl_other (d := 97) (u := undef) s84 (by decide)
      replace s93 := sl_other (d := 97) (u := undef) s93 (by decide)
      replace s95 := sl_other (d := 97) (u := undef) s95 (by decide)
      replace hF := hF.put 97 (undef) (by decide)
      generalize b74.put (some 97) (undef) = b75 at *
      refine wpList_skip (wantsUn g98 hg93 s93) ?_
      rw [d98]
      have s98 := sl_same (v := undef) (fr_lt hF hN (show 98 < 118 by decide))
      replace s81x82 := sl_other (d := 98) (u := undef) s81x82 (by decide)
      replace s84 := sl_other (d := 98) (u := undef) s84 (by decide)
      replace s93 := sl_other (d := 98) (u := undef) s93 (by decide)
      replace hF := hF.put 98 (undef) (by decide)
      generalize b75.put (some 98) (undef) = b76 at *
      refine wpList_skip (wantsUn g99 hg84 s84) ?_
      rw [d99]
      have s99 := sl_same (v := undef) (fr_lt hF hN (show 99 < 118 by decide))
      replace s81x82 := sl_other (d := 99) (u := undef) s81x82 (by decide)
      replace s84 := sl_other (d := 99) (u := undef) s84 (by decide)
      replace hF := hF.put 99 (undef) (by decide)
      generalize b76.put (some 99) (undef) = b77 at *
      refine wpList_skip (wantsNo g100 hg81 s81x82 (by decide)) ?_
      rw [d100]
      have s100 := sl_same (v := undef) (fr_lt hF hN (show 100 < 118 by decide))
      replace s81x82 := sl_other (d := 100) (u := undef) s81x82 (by decide)
      replace hF := hF.put 100 (undef) (by decide)
      generalize b77.put (some 100) (undef) = b78 at *
      refine ls (v := .bool true) (wants0 g101) (run_pkT (by rw [e101]) (Sl_eval s81x82) (BigFrame.eval_const _ _)) ?_
      rw [d101]
      have s101 := sl_same (v := .bool true) (fr_lt hF hN (show 101 < 118 by decide))
      replace hF := hF.put 101 (.bool true) (by decide)
      generalize b78.put (some 101) (.bool true) = b79 at *
      exact seg2 _ _ hW hF (s101.trans (by simp [hb82]))
  have seg0 : ∀ a1 w, Below w0.heap.size w0 w → Fr 69 118 a0 a1 → wpList Try.prog ops Q (o69 :: o70 :: o71 :: o72 :: o73 :: o74 :: o75 :: o76 :: o77 :: o78 :: o79 :: o80 :: o81 :: o82 :: o83 :: o84 :: o85 :: o86 :: o87 :: o88 :: o89 :: o90 :: o91 :: o92 :: o93 :: o94 :: o95 :: o96 :: o97 :: o98 :: o99 :: o100 :: o101 :: o102 :: o103 :: o104 :: o105 :: o106 :: o107 :: o108 :: o109 :: o110 :: o111 :: o112 :: o113 :: o114 :: o115 :: o116 :: o117 :: rest) a1 w := by
    intro a1 w hW hF
    refine ls (v := .int .i64 K) (wants0 g69) (run_mv (by rw [e69]) (Sl_eval ((hF.k 3 (by decide)).trans i3))) ?_
    rw [d69]
    have s69 := sl_same (v := .int .i64 K) (fr_lt hF hN (show 69 < 118 by decide))
    replace hF := hF.put 69 (.int .i64 K) (by decide)
    generalize a1.put (some 69) (.int .i64 K) = b1 at *
    refine ls_call (v := .bool q70) (wants0 g70) (run_call2 (f := 38) (x := .tmp 69) (y := .const (.int .u8 103)) Try.call38 (by rw [e70]) (Sl_eval s69) (BigFrame.eval_const _ _)) (law70 _ hW) ?_
    rw [d70]
    have s70 := sl_same (v := .bool q70) (fr_lt hF hN (show 70 < 118 by decide))
    replace hF := hF.put 70 (.bool q70) (by decide)
    generalize b1.put (some 70) (.bool q70) = b2 at *
    refine ls (v := .bool q70) (wants0 g71) (run_mv (by rw [e71]) (Sl_eval s70)) ?_
    rw [d71]
    have s71 := sl_same (v := .bool q70) (fr_lt hF hN (show 71 < 118 by decide))
    replace hF := hF.put 71 (.bool q70) (by decide)
    generalize b2.put (some 71) (.bool q70) = b3 at *
    rcases hb72 : q70 with _ | _
    · have s71x72 := s71
      rw [hb72] at s71x72
      refine wpList_skip (wantsNo g72 hg71 s71x72 (by decide)) ?_
      rw [d72]
      have s72 := sl_same (v := undef) (fr_lt hF hN (show 72 < 118 by decide))
      replace s71x72 := sl_other (d := 72) (u := undef) s71x72 (by decide)
      replace hF := hF.put 72 (undef) (by decide)
      generalize b3.put (some 72) (undef) = b4 at *
      refine wpList_skip (wantsNo g73 hg71 s71x72 (by decide)) ?_
      rw [d73]
      have s73 := sl_same (v := undef) (fr_lt hF hN (show 73 < 118 by decide))
      replace s71x72 := sl_other (d := 73) (u := undef) s71x72 (by decide)
      replace hF := hF.put 73 (undef) (by decide)
      generalize b4.put (some 73) (undef) = b5 at *
      refine wpList_skip (wantsNo g74 hg71 s71x72 (by decide)) ?_
      rw [d74]
      have s74 := sl_same (v := undef) (fr_lt hF hN (show 74 < 118 by decide))
      replace s71x72 := sl_other (d := 74) (u := undef) s71x72 (by decide)
      replace hF := hF.put 74 (undef) (by decide)
      generalize b5.put (some 74) (undef) = b6 at *
      refine wpList_skip (wantsNo g75 hg71 s71x72 (by decide)) ?_
      rw [d75]
      have s75 := sl_same (v := undef) (fr_lt hF hN (show 75 < 118 by decide))
      replace s71x72 := sl_other (d := 75) (u := undef) s71x72 (by decide)
      replace hF := hF.put 75 (undef) (by decide)
      generalize b6.put (some 75) (undef) = b7 at *
      refine wpList_skip (wantsUn g76 hg75 s75) ?_
      rw [d76]
      have s76 := sl_same (v := undef) (fr_lt hF hN (show 76 < 118 by decide))
      replace s71x72 := sl_other (d := 76) (u := undef) s71x72 (by decide)
      replace s75 := sl_other (d := 76) (u := undef) s75 (by decide)
      replace hF := hF.put 76 (undef) (by decide)
      generalize b7.put (some 76) (undef) = b8 at *
      refine wpList_skip (wantsUn g77 hg75 s75) ?_
      rw [d77]
      have s77 := sl_same (v := undef) (fr_lt hF hN (show 77 < 118 by decide))
      replace s71x72 := sl_other (d := 77) (u := undef) s71x72 (by decide)
      replace s75 := sl_other (d := 77) (u := undef) s75 (by decide)
      replace hF := hF.put 77 (undef) (by decide)
      generalize b8.put (some 77) (undef) = b9 at *
      refine wpList_skip (wantsUn g78 hg75 s75) ?_
      rw [d78]
      have s78 := sl_same (v := undef) (fr_lt hF hN (show 78 < 118 by decide))
      replace s71x72 := sl_other (d := 78) (u := undef) s71x72 (by decide)
      replace s75 := sl_other (d := 78) (u := undef) s75 (by decide)
      replace hF := hF.put 78 (undef) (by decide)
      generalize b9.put (some 78) (undef) = b10 at *
      refine wpList_skip (wantsNo g79 hg71 s71x72 (by decide)) ?_
      rw [d79]
      have s79 := sl_same (v := undef) (fr_lt hF hN (show 79 < 118 by decide))
      replace s71x72 := sl_other (d := 79) (u := undef) s71x72 (by decide)
      replace hF := hF.put 79 (undef) (by decide)
      generalize b10.put (some 79) (undef) = b11 at *
      refine ls (v := .bool false) (wants0 g80) (run_pkF (by rw [e80]) (Sl_eval s71x72) (BigFrame.eval_const _ _)) ?_
      rw [d80]
      have s80 := sl_same (v := .bool false) (fr_lt hF hN (show 80 < 118 by decide))
      replace hF := hF.put 80 (.bool false) (by decide)
      generalize b11.put (some 80) (.bool false) = b12 at *
      exact seg1 _ _ hW hF (s80.trans (by simp [hb72]))
    · have s71x72 := s71
      rw [hb72] at s71x72
      refine ls (v := .pointer (some ⟨A, 6, none⟩)) (wants g72 hg71 s71x72) (run_fa (by rw [e72]) (Sl_eval ((hF.k 1 (by decide)).trans i1)) (by decide)) ?_
      rw [d72]
      have s72 := sl_same (v := .pointer (some ⟨A, 6, none⟩)) (fr_lt hF hN (show 72 < 118 by decide))
      replace s71x72 := sl_other (d := 72) (u := .pointer (some ⟨A, 6, none⟩)) s71x72 (by decide)
      replace hF := hF.put 72 (.pointer (some ⟨A, 6, none⟩)) (by decide)
      generalize b3.put (some 72) (.pointer (some ⟨A, 6, none⟩)) = b13 at *
      refine ls (v := .int .i64 ((F 6))) (wants g73 hg71 s71x72) (run_ldi (by rw [e73]) (Sl_eval s72) (hM _ hW).c6 (Or.inl ⟨rfl, rfl⟩)) ?_
      rw [d73]
      have s73 := sl_same (v := .int .i64 ((F 6))) (fr_lt hF hN (show 73 < 118 by decide))
      replace s71x72 := sl_other (d := 73) (u := .int .i64 ((F 6))) s71x72 (by decide)
      replace hF := hF.put 73 (.int .i64 ((F 6))) (by decide)
      generalize b13.put (some 73) (.int .i64 ((F 6))) = b14 at *
      refine ls (v := .bool q74) (wants g74 hg71 s71x72) ((run_lss (by rw [e74]) (Sl_eval s73) (BigFrame.eval_const _ _) (Or.inl ⟨rfl, rfl⟩)).trans (by rw [h74])) ?_
      rw [d74]
      have s74 := sl_same (v := .bool q74) (fr_lt hF hN (show 74 < 118 by decide))
      replace s71x72 := sl_other (d := 74) (u := .bool q74) s71x72 (by decide)
      replace hF := hF.put 74 (.bool q74) (by decide)
      generalize b14.put (some 74) (.bool q74) = b15 at *
      refine ls (v := .bool q74) (wants g75 hg71 s71x72) (run_mv (by rw [e75]) (Sl_eval s74)) ?_
      rw [d75]
      have s75 := sl_same (v := .bool q74) (fr_lt hF hN (show 75 < 118 by decide))
      replace s71x72 := sl_other (d := 75) (u := .bool q74) s71x72 (by decide)
      replace hF := hF.put 75 (.bool q74) (by decide)
      generalize b15.put (some 75) (.bool q74) = b16 at *
      rcases hb76 : q74 with _ | _
      · have s75x76 := s75
        rw [hb76] at s75x76
        refine ls (v := .pointer (some ⟨A, 6, none⟩)) (wants g76 hg75 s75x76) (run_fa (by rw [e76]) (Sl_eval ((hF.k 1 (by decide)).trans i1)) (by decide)) ?_
        rw [d76]
        have s76 := sl_same (v := .pointer (some ⟨A, 6, none⟩)) (fr_lt hF hN (show 76 < 118 by decide))
        replace s71x72 := sl_other (d := 76) (u := .pointer (some ⟨A, 6, none⟩)) s71x72 (by decide)
        replace s75x76 := sl_other (d := 76) (u := .pointer (some ⟨A, 6, none⟩)) s75x76 (by decide)
        replace hF := hF.put 76 (.pointer (some ⟨A, 6, none⟩)) (by decide)
        generalize b16.put (some 76) (.pointer (some ⟨A, 6, none⟩)) = b17 at *
        refine ls (v := .int .i64 ((F 6))) (wants g77 hg75 s75x76) (run_ldi (by rw [e77]) (Sl_eval s76) (hM _ hW).c6 (Or.inl ⟨rfl, rfl⟩)) ?_
        rw [d77]
        have s77 := sl_same (v := .int .i64 ((F 6))) (fr_lt hF hN (show 77 < 118 by decide))
        replace s71x72 := sl_other (d := 77) (u := .int .i64 ((F 6))) s71x72 (by decide)
        replace s75x76 := sl_other (d := 77) (u := .int .i64 ((F 6))) s75x76 (by decide)
        replace hF := hF.put 77 (.int .i64 ((F 6))) (by decide)
        generalize b17.put (some 77) (.int .i64 ((F 6))) = b18 at *
        refine ls (v := .bool q78) (wants g78 hg75 s75x76) ((run_gtr (by rw [e78]) (Sl_eval s77) (BigFrame.eval_const _ _) (Or.inl ⟨rfl, rfl⟩)).trans (by rw [h78])) ?_
        rw [d78]
        have s78 := sl_same (v := .bool q78) (fr_lt hF hN (show 78 < 118 by decide))
        replace s71x72 := sl_other (d := 78) (u := .bool q78) s71x72 (by decide)
        replace s75x76 := sl_other (d := 78) (u := .bool q78) s75x76 (by decide)
        replace hF := hF.put 78 (.bool q78) (by decide)
        generalize b18.put (some 78) (.bool q78) = b19 at *
        refine ls (v := .bool q78) (wants g79 hg71 s71x72) (run_pkF (by rw [e79]) (Sl_eval s75x76) (Sl_eval s78)) ?_
        rw [d79]
        have s79 := sl_same (v := .bool q78) (fr_lt hF hN (show 79 < 118 by decide))
        replace s71x72 := sl_other (d := 79) (u := .bool q78) s71x72 (by decide)
        replace hF := hF.put 79 (.bool q78) (by decide)
        generalize b19.put (some 79) (.bool q78) = b20 at *
        refine ls (v := .bool q78) (wants0 g80) (run_pkT (by rw [e80]) (Sl_eval s71x72) (Sl_eval s79)) ?_
        rw [d80]
        have s80 := sl_same (v := .bool q78) (fr_lt hF hN (show 80 < 118 by decide))
        replace hF := hF.put 80 (.bool q78) (by decide)
        generalize b20.put (some 80) (.bool q78) = b21 at *
        exact seg1 _ _ hW hF (s80.trans (by simp [hb72, hb76]))
      · have s75x76 := s75
        rw [hb76] at s75x76
        refine wpList_skip (wantsNo g76 hg75 s75x76 (by decide)) ?_
        rw [d76]
        have s76 := sl_same (v := undef) (fr_lt hF hN (show 76 < 118 by decide))
        replace s71x72 := sl_other (d := 76) (u := undef) s71x72 (by decide)
        replace s75x76 := sl_other (d := 76) (u := undef) s75x76 (by decide)
        replace hF := hF.put 76 (undef) (by decide)
        generalize b16.put (some 76) (undef) = b22 at *
        refine wpList_skip (wantsNo g77 hg75 s75x76 (by decide)) ?_
        rw [d77]
        have s77 := sl_same (v := undef) (fr_lt hF hN (show 77 < 118 by decide))
        replace s71x72 := sl_other (d := 77) (u := undef) s71x72 (by decide)
        replace s75x76 := sl_other (d := 77) (u := undef) s75x76 (by decide)
        replace hF := hF.put 77 (undef) (by decide)
        generalize b22.put (some 77) (undef) = b23 at *
        refine wpList_skip (wantsNo g78 hg75 s75x76 (by decide)) ?_
        rw [d78]
        have s78 := sl_same (v := undef) (fr_lt hF hN (show 78 < 118 by decide))
        replace s71x72 := sl_other (d := 78) (u := undef) s71x72 (by decide)
        replace s75x76 := sl_other (d := 78) (u := undef) s75x76 (by decide)
        replace hF := hF.put 78 (undef) (by decide)
        generalize b23.put (some 78) (undef) = b24 at *
        refine ls (v := .bool true) (wants g79 hg71 s71x72) (run_pkT (by rw [e79]) (Sl_eval s75x76) (BigFrame.eval_const _ _)) ?_
        rw [d79]
        have s79 := sl_same (v := .bool true) (fr_lt hF hN (show 79 < 118 by decide))
        replace s71x72 := sl_other (d := 79) (u := .bool true) s71x72 (by decide)
        replace hF := hF.put 79 (.bool true) (by decide)
        generalize b24.put (some 79) (.bool true) = b25 at *
        refine ls (v := .bool true) (wants0 g80) (run_pkT (by rw [e80]) (Sl_eval s71x72) (Sl_eval s79)) ?_
        rw [d80]
        have s80 := sl_same (v := .bool true) (fr_lt hF hN (show 80 < 118 by decide))
        replace hF := hF.put 80 (.bool true) (by decide)
        generalize b25.put (some 80) (.bool true) = b26 at *
        exact seg1 _ _ hW hF (s80.trans (by simp [hb72, hb76]))
  exact seg0 a0 w0 (Below.refl _ _) (Fr.refl _ _ _)
set_option maxHeartbeats 4000000 in
theorem regI {ops : Array Oper} {rest : List Oper} {Q : Exit → Act → World → Prop} {a0 : Act} {w0 : World} {A : Nat} {K : Int} {F : Nat → Int} {ia la da : Option Addr} {ni ic nl lc dl dc : Nat} {q134 q139 q144 q119 q124 q129 : Bool} {o118 o119 o120 o121 o122 o123 o124 o125 o126 o127 o128 o129 o130 o131 o132 o133 o134 o135 o136 o137 o138 o139 o140 o141 o142 o143 o144 o145 o146 o147 : Oper}
    (e118 : o118 = { o118 with dst := some 118, op := .move (.tmp 3), guard := none })
    (e119 : o119 = { o119 with dst := some 119, op := .call { callee := .value (.func 38), args := #[.tmp 118, .const (.int .u8 105)], argTypes := #[3, 5] }, guard := none })
    (e120 : o120 = { o120 with dst := some 120, op := .move (.tmp 119), guard := none })
    (e121 : o121 = { o121 with dst := some 121, op := .fieldAddr 30 (.tmp 1) 13, guard := some (2, true) })
    (e122 : o122 = { o122 with dst := some 122, op := .load 26 (.tmp 121), guard := some (2, true) })
    (e123 : o123 = { o123 with dst := some 123, op := .call { callee := .builtin .len, args := #[.tmp 122], argTypes := #[26] }, guard := some (2, true) })
    (e124 : o124 = { o124 with dst := some 124, op := .binOp .lss 3 (.tmp 123) (.const (.int .i64 1)) 3, guard := some (2, true) })
    (e125 : o125 = { o125 with dst := some 125, op := .move (.tmp 124), guard := some (2, true) })
    (e126 : o126 = { o126 with dst := some 126, op := .fieldAddr 30 (.tmp 1) 13, guard := some (7, false) })
    (e127 : o127 = { o127 with dst := some 127, op := .load 26 (.tmp 126), guard := some (7, false) })
    (e128 : o128 = { o128 with dst := some 128, op := .call { callee := .builtin .len, args := #[.tmp 127], argTypes := #[26] }, guard := some (7, false) })
    (e129 : o129 = { o129 with dst := some 129, op := .binOp .gtr 3 (.tmp 128) (.const (.int .i64 16)) 3, guard := some (7, false) })
    (e130 : o130 = { o130 with dst := some 130, op := .pick (.tmp 125) (.const (.bool true)) (.tmp 129), guard := some (2, true) })
    (e131 : o131 = { o131 with dst := some 131, op := .pick (.tmp 120) (.tmp 130) (.const (.bool false)), guard := none })
    (e132 : o132 = { o132 with dst := some 132, op := .move (.tmp 131), guard := none })
    (e133 : o133 = { o133 with dst := some 133, op := .move (.tmp 3), guard := some (14, false) })
    (e134 : o134 = { o134 with dst := some 134, op := .call { callee := .value (.func 38), args := #[.tmp 133, .const (.int .u8 108)], argTypes := #[3, 5] }, guard := some (14, false) })
    (e135 : o135 = { o135 with dst := some 135, op := .move (.tmp 134), guard := some (14, false) })
    (e136 : o136 = { o136 with dst := some 136, op := .fieldAddr 30 (.tmp 1) 14, guard := some (17, true) })
    (e137 : o137 = { o137 with dst := some 137, op := .load 27 (.tmp 136), guard := some (17, true) })
    (e138 : o138 = { o138 with dst := some 138, op := .call { callee := .builtin .len, args := #[.tmp 137], argTypes := #[27] }, guard := some (17, true) })
    (e139 : o139 = { o139 with dst := some 139, op := .binOp .lss 3 (.tmp 138) (.const (.int .i64 1)) 3, guard := some (17, true) })
    (e140 : o140 = { o140 with dst := some 140, op := .move (.tmp 139), guard := some (17, true) })
    (e141 : o141 = { o141 with dst := some 141, op := .fieldAddr 30 (.tmp 1) 14, guard := some (22, false) })
    (e142 : o142 = { o142 with dst := some 142, op := .load 27 (.tmp 141), guard := some (22, false) })
    (e143 : o143 = { o143 with dst := some 143, op := .call { callee := .builtin .len, args := #[.tmp 142], argTypes := #[27] }, guard := some (22, false) })
    (e144 : o144 = { o144 with dst := some 144, op := .binOp .gtr 3 (.tmp 143) (.const (.int .i64 16)) 3, guard := some (22, false) })
    (e145 : o145 = { o145 with dst := some 145, op := .pick (.tmp 140) (.const (.bool true)) (.tmp 144), guard := some (17, true) })
    (e146 : o146 = { o146 with dst := some 146, op := .pick (.tmp 135) (.tmp 145) (.const (.bool false)), guard := some (14, false) })
    (e147 : o147 = { o147 with dst := some 147, op := .pick (.tmp 132) (.const (.bool true)) (.tmp 146), guard := none })
    (hg120 : (ops[2]?).bind (·.dst) = some 120)
    (hg125 : (ops[7]?).bind (·.dst) = some 125)
    (hg132 : (ops[14]?).bind (·.dst) = some 132)
    (hg135 : (ops[17]?).bind (·.dst) = some 135)
    (hg140 : (ops[22]?).bind (·.dst) = some 140)
    (hN : 148 ≤ a0.tmps.size)
    (i1 : a0.tmps[1]? = some (.pointer (some ⟨A, 0, none⟩)))
    (i3 : a0.tmps[3]? = some (.int .i64 K))
    (hM : ∀ w, Below w0.heap.size w0 w → MsgAt w A F (.slice ia ni ic) (.slice la nl lc) (.slice da dl dc))
    (h139 : decide ((nl : Int) < 1) = q139) (h144 : decide (16 < (nl : Int)) = q144) (h124 : decide ((ni : Int) < 1) = q124) (h129 : decide (16 < (ni : Int)) = q129)
    (law134 : ∀ w, Below w0.heap.size w0 w → Calls Try.prog 38 #[.int .i64 K, .int .u8 108] w fun e w' => e = .returned (.bool q134) ∧ w' = w)
    (law119 : ∀ w, Below w0.heap.size w0 w → Calls Try.prog 38 #[.int .i64 K, .int .u8 105] w fun e w' => e = .returned (.bool q119) ∧ w' = w)
    (h : ∀ a' w , Below w0.heap.size w0 w → Fr 118 148 a0 a' → a'.tmps[147]? = some (.bool (((q119 && (q124 || q129)) || (q134 && (q139 || q144))))) → wpList Try.prog ops Q rest a' w) :
    wpList Try.prog ops Q (o118 :: o119 :: o120 :: o121 :: o122 :: o123 :: o124 :: o125 :: o126 :: o127 :: o128 :: o129 :: o130 :: o131 :: o132 :: o133 :: o134 :: o135 :: o136 :: o137 :: o138 :: o139 :: o140 :: o141 :: o142 :: o143 :: o144 :: o145 :: o146 :: o147 :: rest) a0 w0 := by
  have g118 : o118.guard = none := by rw [e118]
  have d118 : o118.dst = some 118 := by rw [e118]
  have g119 : o119.guard = none := by rw [e119]
  have d119 : o119.dst = some 119 := by rw [e119]
  have g120 : o120.guard = none := by rw [e120]
  have d120 : o120.dst = some 120 := by rw [e120]
  have g121 : o121.guard = some (2, true) := by rw [e121]
  have d121 : o121.dst = some 121 := by rw [e121]
  have g122 : o122.guard = some (2, true) := by rw [e122]
  have d122 : o122.dst = some 122 := by rw [e122]
  have g123 : o123.guard = some (2, true) := by rw [e123]
  have d123 : o123.dst = some 123 := by rw [e123]
  have g124 : o124.guard = some (2, true) := by rw [e124]
  have d124 : o124.dst = some 124 := by rw [e124]
  have g125 : o125.guard = some (2, true) := by rw [e125]
  have d125 : o125.dst = some 125 := by rw [e125]
  have g126 : o126.guard = some (7, false) := by rw [e126]
  have d126 : o126.dst = some 126 := by rw [e126]
  have g127 : o127.guard = some (7, false) := by rw [e127]
  have d127 : o127.dst = some 127 := by rw [e127]
  have g128 : o128.guard = some (7, false) := by rw [e128]
  have d128 : o128.dst = some 128 := by rw [e128]
  have g129 : o129.guard = some (7, false) := by rw [e129]
  have d129 : o129.dst = some 129 := by rw [e129]
  have g130 : o130.guard = some (2, true) := by rw [e130]
  have d130 : o130.dst = some 130 := by rw [e130]
  have g131 : o131.guard = none := by rw [e131]
  have d131 : o131.dst = some 131 := by rw [e131]
  have g132 : o132.guard = none := by rw [e132]
  have d132 : o132.dst = some 132 := by rw [e132]
  have g133 : o133.guard = some (14, false) := by rw [e133]
  have d133 : o133.dst = some 133 := by rw [e133]
  have g134 : o134.guard = some (14, false) := by rw [e134]
  have d134 : o134.dst = some 134 := by rw [e134]
  have g135 : o135.guard = some (14, false) := by rw [e135]
  have d135 : o135.dst = some 135 := by rw [e135]
  have g136 : o136.guard = some (17, true) := by rw [e136]
  have d136 : o136.dst = some 136 := by rw [e136]
  have g137 : o137.guard = some (17, true) := by rw [e137]
  have d137 : o137.dst = some 137 := by rw [e137]
  have g138 : o138.guard = some (17, true) := by rw [e138]
  have d138 : o138.dst = some 138 := by rw [e138]
  have g139 : o139.guard = some (17, true) := by rw [e139]
  have d139 : o139.dst = some 139 := by rw [e139]
  have g140 : o140.guard = some (17, true) := by rw [e140]
  have d140 : o140.dst = some 140 := by rw [e140]
  have g141 : o141.guard = some (22, false) := by rw [e141]
  have d141 : o141.dst = some 141 := by rw [e141]
  have g142 : o142.guard = some (22, false) := by rw [e142]
  have d142 : o142.dst = some 142 := by rw [e142]
  have g143 : o143.guard = some (22, false) := by rw [e143]
  have d143 : o143.dst = some 143 := by rw [e143]
  have g144 : o144.guard = some (22, false) := by rw [e144]
  have d144 : o144.dst = some 144 := by rw [e144]
  have g145 : o145.guard = some (17, true) := by rw [e145]
  have d145 : o145.dst = some 145 := by rw [e145]
  have g146 : o146.guard = some (14, false) := by rw [e146]
  have d146 : o146.dst = some 146 := by rw [e146]
  have g147 : o147.guard = none := by rw [e147]
  have d147 : o147.dst = some 147 := by rw [e147]
  have seg1 : ∀ a1 w, Below w0.heap.size w0 w → Fr 118 148 a0 a1 → a1.tmps[131]? = some (.bool ((q119 && (q124 || q129)))) → wpList Try.prog ops Q (o132 :: o133 :: o134 :: o135 :: o136 :: o137 :: o138 :: o139 :: o140 :: o141 :: o142 :: o143 :: o144 :: o145 :: o146 :: o147 :: rest) a1 w := by
    intro a1 w hW hF s131
    refine ls (v := .bool ((q119 && (q124 || q129)))) (wants0 g132) (run_mv (by rw [e132]) (Sl_eval s131)) ?_
    rw [d132]
    have s132 := sl_same (v := .bool ((q119 && (q124 || q129)))) (fr_lt hF hN (show 132 < 148 by decide))
    replace hF := hF.put 132 (.bool ((q119 && (q124 || q129)))) (by decide)
    generalize a1.put (some 132) (.bool ((q119 && (q124 || q129)))) = b1 at *
    rcases hb133 : (q119 && (q124 || q129)) with _ | _
    · have s132x133 := s132
      rw [hb133] at s132x133
      refine ls (v := .int .i64 K) (wants g133 hg132 s132x133) (run_mv (by rw [e133]) (Sl_eval ((hF.k 3 (by decide)).trans i3))) ?_
      rw [d133]
      have s133 := sl_same (v := .int .i64 K) (fr_lt hF hN (show 133 < 148 by decide))
      replace s132x133 := sl_other (d := 133) (u := .int .i64 K) s132x133 (by decide)
      replace hF := hF.put 133 (.int .i64 K) (by decide)
      generalize b1.put (some 133) (.int .i64 K) = b2 at *
      refine ls_call (v := .bool q134) (wants g134 hg132 s132x133) (run_call2 (f := 38) (x := .tmp 133) (y := .const (.int .u8 108)) Try.call38 (by rw [e134]) (Sl_eval s133) (BigFrame.eval_const _ _)) (law134 _ hW) ?_
      rw [d134]
      have s134 := sl_same (v := .bool q134) (fr_lt hF hN (show 134 < 148 by decide))
      replace s132x133 := sl_other (d := 134) (u := .bool q134) s132x133 (by decide)
      replace hF := hF.put 134 (.bool q134) (by decide)
      generalize b2.put (some 134) (.bool q134) = b3 at *
      refine ls (v := .bool q134) (wants g135 hg132 s132x133) (run_mv (by rw [e135]) (Sl_eval s134)) ?_
      rw [d135]
      have s135 := sl_same (v := .bool q134) (fr_lt hF hN (show 135 < 148 by decide))
      replace s132x133 := sl_other (d := 135) (u := .bool q134) s132x133 (by decide)
      replace hF := hF.put 135 (.bool q134) (by decide)
      generalize b3.put (some 135) (.bool q134) = b4 at *
      rcases hb136 : q134 with _ | _
      · have s135x136 := s135
        rw [hb136] at s135x136
        refine wpList_skip (wantsNo g136 hg135 s135x136 (by decide)) ?_
        rw [d136]
        have s136 := sl_same (v := undef) (fr_lt hF hN (show 136 < 148 by decide))
        replace s132x133 := sl_other (d := 136) (u := undef) s132x133 (by decide)
        replace s135x136 := sl_other (d := 136) (u := undef) s135x136 (by decide)
        replace hF := hF.put 136 (undef) (by decide)
        generalize b4.put (some 136) (undef) = b5 at *
        refine wpList_skip (wantsNo g137 hg135 s135x136 (by decide)) ?_
        rw [d137]
        have s137 := sl_same (v := undef) (fr_lt hF hN (show 137 < 148 by decide))
        replace s132x133 := sl_other (d := 137) (u := undef) s132x133 (by decide)
        replace s135x136 := sl_other (d := 137) (u := undef) s135x136 (by decide)
        replace hF := hF.put 137 (undef) (by decide)
        generalize b5.put (some 137) (undef) = b6 at *
        refine wpList_skip (wantsNo g138 hg135 s135x136 (by decide)) ?_
        rw [d138]
        have s138 := sl_same (v := undef) (fr_lt hF hN (show 138 < 148 by decide))
        replace s132x133 := sl_other (d := 138) (u := undef) s132x133 (by decide)
        replace s135x136 := sl_other (d := 138) (u := undef) s135x136 (by decide)
        replace hF := hF.put 138 (undef) (by decide)
        generalize b6.put (some 138) (undef) = b7 at *
        refine wpList_skip (wantsNo g139 hg135 s135x136 (by decide)) ?_
        rw [d139]
        have s139 := sl_same (v := undef) (fr_lt hF hN (show 139 < 148 by decide))
        replace s132x133 := sl_other (d := 139) (u := undef) s132x133 (by decide)
        replace s135x136 := sl_other (d := 139) (u := undef) s135x136 (by decide)
        replace hF := hF.put 139 (undef) (by decide)
        generalize b7.put (some 139) (undef) = b8 at *
        refine wpList_skip (wantsNo g140 hg135 s135x136 (by decide)) ?_
        rw [d140]
        have s140 := sl_same (v := undef) (fr_lt hF hN (show 140 < 148 by decide))
        replace s132x133 := sl_other (d := 140) (u := undef) s132x133 (by decide)
        replace s135x136 := sl_other (d := 140) (u := undef) s135x136 (by decide)
        replace hF := hF.put 140 (undef) (by decide)
        generalize b8.put (some 140) (undef) = b9 at *
        refine wpList_skip (wantsUn g141 hg140 s140) ?_
        rw [d141]
        have s141 := sl_same (v := undef) (fr_lt hF hN (show 141 < 148 by decide))
        replace s132x133 := sl_other (d := 141) (u := undef) s132x133 (by decide)
        replace s135x136 := sl_other (d := 141) (u := undef) s135x136 (by decide)
        replace s140 := sl_other (d := 141) (u := undef) s140 (by decide)
        replace hF := hF.put 141 (undef) (by decide)
        generalize b9.put (some 141) (undef) = b10 at *
        refine wpList_skip (wantsUn g142 hg140 s140) ?_
        rw [d142]
        have s142 := sl_same (v := undef) (fr_lt hF hN (show 142 < 148 by decide))
        replace s132x133 := sl_other (d := 142) (u := undef) s132x133 (by decide)
        replace s135x136 := sl_other (d := 142) (u := undef) s135x136 (by decide)
        replace s140 := sl_other (d := 142) (u := undef) s140 (by decide)
        replace hF := hF.put 142 (undef) (by decide)
        generalize b10.put (some 142) (undef) = b11 at *
        refine wpList_skip (wantsUn g143 hg140 s140) ?_
        rw [d143]
        have s143 := sl_same (v := undef) (fr_lt hF hN (show 143 < 148 by decide))
        replace s132x133 := sl_other (d := 143) (u := undef) s132x133 (by decide)
        replace s135x136 := sl_other (d := 143) (u := undef) s135x136 (by decide)
        replace s140 := sl_other (d := 143) (u := undef) s140 (by decide)
        replace hF := hF.put 143 (undef) (by decide)
        generalize b11.put (some 143) (undef) = b12 at *
        refine wpList_skip (wantsUn g144 hg140 s140) ?_
        rw [d144]
        have s144 := sl_same (v := undef) (fr_lt hF hN (show 144 < 148 by decide))
        replace s132x133 := sl_other (d := 144) (u := undef) s132x133 (by decide)
        replace s135x136 := sl_other (d := 144) (u := undef) s135x136 (by decide)
        replace s140 := sl_other (d := 144) (u := undef) s140 (by decide)
        replace hF := hF.put 144 (undef) (by decide)
        generalize b12.put (some 144) (undef) = b13 at *
        refine wpList_skip (wantsNo g145 hg135 s135x136 (by decide)) ?_
        rw [d145]
        have s145 := sl_same (v := undef) (fr_lt hF hN (show 145 < 148 by decide))
        replace s132x133 := sl_other (d := 145) (u := undef) s132x133 (by decide)
        replace s135x136 := sl_other (d := 145) (u := undef) s135x136 (by decide)
        replace hF := hF.put 145 (undef) (by decide)
        generalize b13.put (some 145) (undef) = b14 at *
        refine ls (v := .bool false) (wants g146 hg132 s132x133) (run_pkF (by rw [e146]) (Sl_eval s135x136) (BigFrame.eval_const _ _)) ?_
        rw [d146]
        have s146 := sl_same (v := .bool false) (fr_lt hF hN (show 146 < 148 by decide))
        replace s132x133 := sl_other (d := 146) (u := .bool false) s132x133 (by decide)
        replace hF := hF.put 146 (.bool false) (by decide)
        generalize b14.put (some 146) (.bool false) = b15 at *
        refine ls (v := .bool false) (wants0 g147) (run_pkF (by rw [e147]) (Sl_eval s132x133) (Sl_eval s146)) ?_
        rw [d147]
        have s147 := sl_same (v := .bool false) (fr_lt hF hN (show 147 < 148 by decide))
        replace hF := hF.put 147 (.bool false) (by decide)
        generalize b15.put (some 147) (.bool false) = b16 at *
        exact h _ _ hW hF (s147.trans (by simp [hb133, hb136]))
      · have s135x136 := s135
        rw [hb136] at s135x136
        refine ls (v := .pointer (some ⟨A, 14, none⟩)) (wants g136 hg135 s135x136) (run_fa (by rw [e136]) (Sl_eval ((hF.k 1 (by decide)).trans i1)) (by decide)) ?_
        rw [d136]
        have s136 := sl_same (v := .pointer (some ⟨A, 14, none⟩)) (fr_lt hF hN (show 136 < 148 by decide))
        replace s132x133 := sl_other (d := 136) (u := .pointer (some ⟨A, 14, none⟩)) s132x133 (by decide)
        replace s135x136 := sl_other (d := 136) (u := .pointer (some ⟨A, 14, none⟩)) s135x136 (by decide)
        replace hF := hF.put 136 (.pointer (some ⟨A, 14, none⟩)) (by decide)
        generalize b4.put (some 136) (.pointer (some ⟨A, 14, none⟩)) = b17 at *
        refine ls (v := .slice la nl lc) (wants g137 hg135 s135x136) (run_lds (by rw [e137]) (Sl_eval s136) (hM _ hW).c14 (Or.inr (Or.inl rfl))) ?_
        rw [d137]
        have s137 := sl_same (v := .slice la nl lc) (fr_lt hF hN (show 137 < 148 by decide))
        replace s132x133 := sl_other (d := 137) (u := .slice la nl lc) s132x133 (by decide)
        replace s135x136 := sl_other (d := 137) (u := .slice la nl lc) s135x136 (by decide)
        replace hF := hF.put 137 (.slice la nl lc) (by decide)
        generalize b17.put (some 137) (.slice la nl lc) = b18 at *
        refine ls (v := .int .i64 ((nl : Int))) (wants g138 hg135 s135x136) (run_lensl (by rw [e138]) (Sl_eval s137) (Or.inr (Or.inl rfl))) ?_
        rw [d138]
        have s138 := sl_same (v := .int .i64 ((nl : Int))) (fr_lt hF hN (show 138 < 148 by decide))
        replace s132x133 := sl_other (d := 138) (u := .int .i64 ((nl : Int))) s132x133 (by decide)
        replace s135x136 := sl_other (d := 138) (u := .int .i64 ((nl : Int))) s135x136 (by decide)
        replace hF := hF.put 138 (.int .i64 ((nl : Int))) (by decide)
        generalize b18.put (some 138) (.int .i64 ((nl : Int))) = b19 at *
        refine ls (v := .bool q139) (wants g139 hg135 s135x136) ((run_lss (by rw [e139]) (Sl_eval s138) (BigFrame.eval_const _ _) (Or.inl ⟨rfl, rfl⟩)).trans (by rw [h139])) ?_
        rw [d139]
        have s139 := sl_same (v := .bool q139) (fr_lt hF hN (show 139 < 148 by decide))
        replace s132x133 := sl_other (d := 139) (u := .bool q139) s132x133 (by decide)
        replace s135x136 := sl_other (d := 139) (u := .bool q139) s135x136 (by decide)
        replace hF := hF.put 139 (.bool q139) (by decide)
        generalize b19.put (some 139) (.bool q139) = b20 at *
        refine ls (v := .bool q139) (wants g140 hg135 s135x136) (run_mv (by rw [e140]) (Sl_eval s139)) ?_
        rw [d140]
        have s140 := sl_same (v := .bool q139) (fr_lt hF hN (show 140 < 148 by decide))
        replace s132x133 := sl_other (d := 140) (u := .bool q139) s132x133 (by decide)
        replace s135x136 := sl_other (d := 140) (u := .bool q139) s135x136 (by decide)
        replace hF := hF.put 140 (.bool q139) (by decide)
        generalize b20.put (some 140) (.bool q139) = b21 at *
        rcases hb141 : q139 with _ | _
        · have s140x141 := s140
          rw [hb141] at s140x141
          refine ls (v := .pointer (some ⟨A, 14, none⟩)) (wants g141 hg140 s140x141) (run_fa (by rw [e141]) (Sl_eval ((hF.k 1 (by decide)).trans i1)) (by decide)) ?_
          rw [d141]
          have s141 := sl_same (v := .pointer (some ⟨A, 14, none⟩)) (fr_lt hF hN (show 141 < 148 by decide))
          replace s132x133 := sl_other (d := 141) (u := .pointer (some ⟨A, 14, none⟩)) s132x133 (by decide)
          replace s135x136 := sl_other (d := 141) (u := .pointer (some ⟨A, 14, none⟩)) s135x136 (by decide)
          replace s140x141 := sl_other (d := 141) (u := .pointer (some ⟨A, 14, none⟩)) s140x141 (by decide)
          replace hF := hF.put 141 (.pointer (some ⟨A, 14, none⟩)) (by decide)
          generalize b21.put (some 141) (.pointer (some ⟨A, 14, none⟩)) = b22 at *
          refine ls (v := .slice la nl lc) (wants g142 hg140 s140x141) (run_lds (by rw [e142]) (Sl_eval s141) (hM _ hW).c14 (Or.inr (Or.inl rfl))) ?_
          rw [d142]
          have s142 := sl_same (v := .slice la nl lc) (fr_lt hF hN (show 142 < 148 by decide))
          replace s132x133 := sl_other (d := 142) (u := .slice la nl lc) s132x133 (by decide)
          replace s135x136 := sl_other (d := 142) (u := .slice la nl lc) s135x136 (by decide)
          replace s140x141 := sl_other (d := 142) (u := .slice la nl lc) s140x141 (by decide)
          replace hF := hF.put 142 (.slice la nl lc) (by decide)
          generalize b22.put (some 142) (.slice la nl lc) = b23 at *
          refine ls (v := .int .i64 ((nl : Int))) (wants g143 hg140 s140x141) (run_lensl (by rw [e143]) (Sl_eval s142) (Or.inr (Or.inl rfl))) ?_
          rw [d143]
          have s143 := sl_same (v := .int .i64 ((nl : Int))) (fr_lt hF hN (show 143 < 148 by decide))
          replace s132x133 := sl_other (d := 143) (u := .int .i64 ((nl : Int))) s132x133 (by decide)
          replace s135x136 := sl_other (d := 143) (u := .int .i64 ((nl : Int))) s135x136 (by decide)
          replace s140x141 := sl_other (d := 143) (u := .int .i64 ((nl : Int))) s140x141 (by decide)
          replace hF := hF.put 143 (.int .i64 ((nl : Int))) (by decide)
          generalize b23.put (some 143) (.int .i64 ((nl : Int))) = b24 at *
          refine ls (v := .bool q144) (wants g144 hg140 s140x141) ((run_gtr (by rw [e144]) (Sl_eval s143) (BigFrame.eval_const _ _) (Or.inl ⟨rfl, rfl⟩)).trans (by rw [h144])) ?_
          rw [d144]
          have s144 := sl_same (v := .bool q144) (fr_lt hF hN (show 144 < 148 by decide))
          replace s132x133 := sl_other (d := 144) (u := .bool q144) s132x133 (by decide)
          replace s135x136 := sl_other (d := 144) (u := .bool q144) s135x136 (by decide)
          replace s140x141 := sl_other (d := 144) (u := .bool q144) s140x141 (by decide)
          replace hF := hF.put 144 (.bool q144) (by decide)
          generalize b24.put (some 144) (.bool q144) = b25 at *
          refine ls (v := .bool q144) (wants g145 hg135 s135x136) (run_pkF (by rw [e145]) (Sl_eval s140x141) (Sl_eval s144)) ?_
          rw [d145]
          have s145 := sl_same (v := .bool q144) (fr_lt hF hN (show 145 < 148 by decide))
          replace s132x133 := sl_other (d := 145) (u := .bool q144) s132x133 (by decide)
          replace s135x136 := sl_other (d := 145) (u := .bool q144) s135x136 (by decide)
          replace hF := hF.put 145 (.bool q144) (by decide)
          generalize b25.put (some 145) (.bool q144) = b26 at *
          refine ls (v := .bool q144) (wants g146 hg132 s132x133) (run_pkT (by rw [e146]) (Sl_eval s135x136) (Sl_eval s145)) ?_
          rw [d146]
          have s146 := sl_same (v := .bool q144) (fr_lt hF hN (show 146 < 148 by decide))
          replace s132x133 := sl_other (d := 146) (u := .bool q144) s132x133 (by decide)
          replace hF := hF.put 146 (.bool q144) (by decide)
          generalize b26.put (some 146) (.bool q144) = b27 at *
          refine ls (v := .bool q144) (wants0 g147) (run_pkF (by rw [e147]) (Sl_eval s132x133) (Sl_eval s146)) ?_
          rw [d147]
          have s147 := sl_same (v := .bool q144) (fr_lt hF hN (show 147 < 148 by decide))
          replace hF := hF.put 147 (.bool q144) (by decide)
          generalize b27.put (some 147) (.bool q144) = b28 at *
          exact h _ _ hW hF (s147.trans (by simp [hb133, hb136, hb141]))
        · have s140x141 := s140
          rw [hb141] at s140x141
          refine wpList_skip (wantsNo g141 hg140 s140x141 (by decide)) ?_
          rw [d141]
          have s141 := sl_same (v := undef) (fr_lt hF hN (show 141 < 148 by decide))
          replace s132x133 := sl_other (d := 141) (u := undef) s132x133 (by decide)
          replace s135x136 := sl_other (d := 141) (u := undef) s135x136 (by decide)
          replace s140x141 := sl_other (d := 141) (u := undef) s140x141 (by decide)
          replace hF := hF.put 141 (undef) (by decide)
          generalize b21.put (some 141) (undef) = b29 at *
          refine wpList_skip (wantsNo g142 hg140 s140x141 (by decide)) ?_
          rw [d142]
          have s142 := sl_same (v := undef) (fr_lt hF hN (show 142 < 148 by decide))
          replace s132x133 := sl_other (d := 142) (u := undef) s132x133 (by decide)
          replace s135x136 := sl_other (d := 142) (u := undef) s135x136 (by decide)
          replace s140x141 := sl_other (d := 142) (u := undef) s140x141 (by decide)
          replace hF := hF.put 142 (undef) (by decide)
          generalize b29.put (some 142) (undef) = b30 at *
          refine wpList_skip (wantsNo g143 hg140 s140x141 (by decide)) ?_
          rw [d143]
          have s143 := sl_same (v := undef) (fr_lt hF hN (show 143 < 148 by decide))
          replace s132x133 := sl_other (d := 143) (u := undef) s132x133 (by decide)
          replace s135x136 := sl_other (d := 143) (u := undef) s135x136 (by decide)
          replace s140x141 := sl_other (d := 143) (u := undef) s140x141 (by decide)
          replace hF := hF.put 143 (undef) (by decide)
          generalize b30.put (some 143) (undef) = b31 at *
          refine wpList_skip (wantsNo g144 hg140 s140x141 (by decide)) ?_
          rw [d144]
          have s144 := sl_same (v := undef) (fr_lt hF hN (show 144 < 148 by decide))
          replace s132x133 := sl_other (d := 144) (u := undef) s132x133 (by decide)
          replace s135x136 := sl_other (d := 144) (u := undef) s135x136 (by decide)
          replace s140x141 := sl_other (d := 144) (u := undef) s140x141 (by decide)
          replace hF := hF.put 144 (undef) (by decide)
          generalize b31.put (some 144) (undef) = b32 at *
          refine ls (v := .bool true) (wants g145 hg135 s135x136) (run_pkT (by rw [e145]) (Sl_eval s140x141) (BigFrame.eval_const _ _)) ?_
          rw [d145]
          have s145 := sl_same (v := .bool true) (fr_lt hF hN (show 145 < 148 by decide))
          replace s132x133 := sl_other (d := 145) (u := .bool true) s132x133 (by decide)
          replace s135x136 := sl_other (d := 145) (u := .bool true) s135x136 (by decide)
          replace hF := hF.put 145 (.bool true) (by decide)
          generalize b32.put (some 145) (.bool true) = b33 at *
          refine ls (v := .bool true) (wants g146 hg132 s132x133) (run_pkT (by rw [e146]) (Sl_eval s135x136) (Sl_eval s145)) ?_
          rw [d146]
          have s146 := sl_same (v := .bool true) (fr_lt hF hN (show 146 < 148 by decide))
          replace s132x133 := sl_other (d := 146) (u := .bool true) s132x133 (by decide)
          replace hF := hF.put 146 (.bool true) (by decide)
          generalize b33.put (some 146) (.bool true) = b34 at *
          refine ls (v := .bool true) (wants0 g147) (run_pkF (by rw [e147]) (Sl_eval s132x133) (Sl_eval s146)) ?_
          rw [d147]
          have s147 := sl_same (v := .bool true) (fr_lt hF hN (show 147 < 148 by decide))
          replace hF := hF.put 147 (.bool true) (by decide)
          generalize b34.put (some 147) (.bool true) = b35 at *
          exact h _ _ hW hF (s147.trans (by simp [hb133, hb136, hb141]))
    · have s132x133 := s132
      rw [hb133] at s132x133
      refine wpList_skip (wantsNo g133 hg132 s132x133 (by decide)) ?_
      rw [d133]
      have s133 := sl_same (v := undef) (fr_lt hF hN (show 133 < 148 by decide))
      replace s132x133 := sl_other (d := 133) (u := undef) s132x133 (by decide)
      replace hF := hF.put 133 (undef) (by decide)
      generalize b1.put (some 133) (undef) = b36 at *
      refine wpList_skip (wantsNo g134 hg132 s132x133 (by decide)) ?_
      rw [d134]
      have s134 := sl_same (v := undef) (fr_lt hF hN (show 134 < 148 by decide))
      replace s132x133 := sl_other (d := 134) (u := undef) s132x133 (by decide)
      replace hF := hF.put 134 (undef) (by decide)
      generalize b36.put (some 134) (undef) = b37 at *
      refine wpList_skip (wantsNo g135 hg132 s132x133 (by decide)) ?_
      rw [d135]
      have s135 := sl_same (v := undef) (fr_lt hF hN (show 135 < 148 by decide))
      replace s132x133 := sl_other (d := 135) (u := undef) s132x133 (by decide)
      replace hF := hF.put 135 (undef) (by decide)
      generalize b37.put (some 135) (undef) = b38 at *
      refine wpList_skip (wantsUn g136 hg135 s135) ?_
      rw [d136]
      have s136 := sl_same (v := undef) (fr_lt hF hN (show 136 < 148 by decide))
      replace s132x133 := sl_other (d := 136) (u := undef) s132x133 (by decide)
      replace s135 := sl_other (d := 136) (u := undef) s135 (by decide)
      replace hF := hF.put 136 (undef) (by decide)
      generalize b38.put (some 136) (undef) = b39 at *
      refine wpList_skip (wantsUn g137 hg135 s135) ?_
      rw [d137]
      have s137 := sl_same (v := undef) (fr_lt hF hN (show 137 < 148 by decide))
      replace s132x133 := sl_other (d := 137) (u := undef) s132x133 (by decide)
      replace s135 := sl_other (d := 137) (u := undef) s135 (by decide)
      replace hF := hF.put 137 (undef) (by decide)
      generalize b39.put (some 137) (undef) = b40 at *
      refine wpList_skip (wantsUn g138 hg135 s135) ?_
      rw [d138]
      have s138 := sl_same (v := undef) (fr_lt hF hN (show 138 < 148 by decide))
      replace s132x133 := sl_other (d := 138) (u := undef) s132x133 (by decide)
      replace s135 := sl_other (d := 138) (u := undef) s135 (by decide)
      replace hF := hF.put 138 (undef) (by decide)
      generalize b40.put (some 138) (undef) = b41 at *
      refine wpList_skip (wantsUn g139 hg135 s135) ?_
      rw [d139]
      have s139 := sl_same (v := undef) (fr_lt hF hN (show 139 < 148 by decide))
      replace s132x133 := sl_other (d := 139) (u := undef) s132x133 (by decide)
      replace s135 := sl_other (d := 139) (u := undef) s135 (by decide)
      replace hF := hF.put 139 (undef) (by decide)
      generalize b41.put (some 139) (undef) = b42 at *
      refine wpList_skip (wantsUn g140 hg135 s135) ?_
      rw [d140]
      have s140 := sl_same (v := undef) (fr_lt hF hN (show 140 < 148 by decide))
      replace s132x133 := sl_other (d := 140) (u := undef) s132x133 (by decide)
      replace s135 := sl_other (d := 140) (u := undef) s135 (by decide)
      replace hF := hF.put 140 (undef) (by decide)
      generalize b42.put (some 140) (undef) = b43 at *
      refine wpList_skip (wantsUn g141 hg140 s140) ?_
      rw [d141]
      have s141 := sl_same (v := undef) (fr_lt hF hN (show 141 < 148 by decide))
      replace s132x133 := sl_other (d := 141) (u := undef) s132x133 (by decide)
      replace s135 := sl_other (d := 141) (u := undef) s135 (by decide)
      replace s140 := sl_other (d := 141) (u := undef) s140 (by decide)
      replace hF := hF.put 141 (undef) (by decide)
      generalize b43.put (some 141) (undef) = b44 at *
      refine wpList_skip (wantsUn g142 hg140 s140) ?_
      rw [d142]
      have s142 := sl_same (v := undef) (fr_lt hF hN (show 142 < 148 by decide))
      replace s132x133 := sl_other (d := 142) (u := undef) s132x133 (by decide)
      replace s135 := sl_other (d := 142) (u := undef) s135 (by decide)
      replace s140 := sl_other (d := 142) (u := undef) s140 (by decide)
      replace hF := hF.put 142 (undef) (by decide)
      generalize b44.put (some 142) (undef) = b45 at *
      refine wpList_skip (wantsUn g143 hg140 s140) ?_
      rw [d143]
      have s143 := sl_same (v := undef) (fr_lt hF hN (show 143 < 148 by decide))
      replace s132x133 := sl_other (d := 143) (u := undef) s132x133 (by decide)
      replace s135 := sl_other (d := 143) (u := undef) s135 (by decide)
      replace s140 := sl_other (d := 143) (u := undef) s140 (by decide)
      replace hF := hF.put 143 (undef) (by decide)
      generalize b45.put (some 143) (undef) = b46 at *
      refine wpList_skip (wantsUn g144 hg140 s140) ?_
      rw [d144]
      have s144 := sl_same (v := undef) (fr_lt hF hN (show 144 < 148 by decide))
      replace s132x133 := sl_other (d := 144) (u := undef) s132x133 (by decide)
      replace s135 := sl_other (d := 144) (u := undef) s135 (by decide)
      replace s140 := sl_other (d := 144) (u := undef) s140 (by decide)
      replace hF := hF.put 144 (undef) (by decide)
      generalize b46.put (some 144) (undef) = b47 at *
      refine wpList_skip (wantsUn g145 hg135 s135) ?_
      rw [d145]
      have s145 := sl_same (v := undef) (fr_lt hF hN (show 145 < 148 by decide))
      replace s132x133 := sl_other (d := 145) (u := undef) s132x133 (by decide)
      replace s135 := sl_other (d := 145) (u := undef) s135 (by decide)
      replace hF := hF.put 145 (undef) (by decide)
      generalize b47.put (some 145) (undef) = b48 at *
      refine wpList_skip (wantsNo g146 hg132 s132x133 (by decide)) ?_
      rw [d146]
      have s146 := sl_same (v := undef) (fr_lt hF hN (show 146 < 148 by decide))
      replace s132x133 := sl_other (d := 146) (u := undef) s132x133 (by decide)
      replace hF := hF.put 146 (undef) (by decide)
      generalize b48.put (some 146) (undef) = b49 at *
      refine ls (v := .bool true) (wants0 g147) (run_pkT (by rw [e147]) (Sl_eval s132x133) (BigFrame.eval_const _ _)) ?_
      rw [d147]
      have s147 := sl_same (v := .bool true) (fr_lt hF hN (show 147 < 148 by decide))
      replace hF := hF.put 147 (.bool true) (by decide)
      generalize b49.put (some 147) (.bool true) = b50 at *
      exact h _ _ hW hF (s147.trans (by simp [hb133]))
  have seg0 : ∀ a1 w, Below w0.heap.size w0 w → Fr 118 148 a0 a1 → wpList Try.prog ops Q (o118 :: o119 :: o120 :: o121 :: o122 :: o123 :: o124 :: o125 :: o126 :: o127 :: o128 :: o129 :: o130 :: o131 :: o132 :: o133 :: o134 :: o135 :: o136 :: o137 :: o138 :: o139 :: o140 :: o141 :: o142 :: o143 :: o144 :: o145 :: o146 :: o147 :: rest) a1 w := by
    intro a1 w hW hF
    refine ls (v := .int .i64 K) (wants0 g118) (run_mv (by rw [e118]) (Sl_eval ((hF.k 3 (by decide)).trans i3))) ?_
    rw [d118]
    have s118 := sl_same (v := .int .i64 K) (fr_lt hF hN (show 118 < 148 by decide))
    replace hF := hF.put 118 (.int .i64 K) (by decide)
    generalize a1.put (some 118) (.int .i64 K) = b1 at *
    refine ls_call (v := .bool q119) (wants0 g119) (run_call2 (f := 38) (x := .tmp 118) (y := .const (.int .u8 105)) Try.call38 (by rw [e119]) (Sl_eval s118) (BigFrame.eval_const _ _)) (law119 _ hW) ?_
    rw [d119]
    have s119 := sl_same (v := .bool q119) (fr_lt hF hN (show 119 < 148 by decide))
    replace hF := hF.put 119 (.bool q119) (by decide)
    generalize b1.put (some 119) (.bool q119) = b2 at *
    refine ls (v := .bool q119) (wants0 g120) (run_mv (by rw [e120]) (Sl_eval s119)) ?_
    rw [d120]
    have s120 := sl_same (v := .bool q119) (fr_lt hF hN (show 120 < 148 by decide))
    replace hF := hF.put 120 (.bool q119) (by decide)
    generalize b2.put (some 120) (.bool q119) = b3 at *
    rcases hb121 : q119 with _ | _
    · have s120x121 := s120
      rw [hb121] at s120x121
      refine wpList_skip (wantsNo g121 hg120 s120x121 (by decide)) ?_
      rw [d121]
      have s121 := sl_same (v := undef) (fr_lt hF hN (show 121 < 148 by decide))
      replace s120x121 := sl_other (d := 121) (u := undef) s120x121 (by decide)
      replace hF := hF.put 121 (undef) (by decide)
      generalize b3.put (some 121) (undef) = b4 at *
      refine wpList_skip (wantsNo g122 hg120 s120x121 (by decide)) ?_
      rw [d122]
      have s122 := sl_same (v := undef) (fr_lt hF hN (show 122 < 148 by decide))
      replace s120x121 := sl_other (d := 122) (u := undef) s120x121 (by decide)
      replace hF := hF.put 122 (undef) (by decide)
      generalize b4.put (some 122) (undef) = b5 at *
      refine wpList_skip (wantsNo g123 hg120 s120x121 (by decide)) ?_
      rw [d123]
      have s123 := sl_same (v := undef) (fr_lt hF hN (show 123 < 148 by decide))
      replace s120x121 := sl_other (d := 123) (u := undef) s120x121 (by decide)
      replace hF := hF.put 123 (undef) (by decide)
      generalize b5.put (some 123) (undef) = b6 at *
      refine wpList_skip (wantsNo g124 hg120 s120x121 (by decide)) ?_
      rw [d124]
      have s124 := sl_same (v := undef) (fr_lt hF hN (show 124 < 148 by decide))
      replace s120x121 := sl_other (d := 124) (u := undef) s120x121 (by decide)
      replace hF := hF.put 124 (undef) (by decide)
      generalize b6.put (some 124) (undef) = b7 at *
      refine wpList_skip (wantsNo g125 hg120 s120x121 (by decide)) ?_
      rw [d125]
      have s125 := sl_same (v := undef) (fr_lt hF hN (show 125 < 148 by decide))
      replace s120x121 := sl_other (d := 125) (u := undef) s120x121 (by decide)
      replace hF := hF.put 125 (undef) (by decide)
      generalize b7.put (some 125) (undef) = b8 at *
      refine wpList_skip (wantsUn g126 hg125 s125) ?_
      rw [d126]
      have s126 := sl_same (v := undef) (fr_lt hF hN (show 126 < 148 by decide))
      replace s120x121 := sl_other (d := 126) (u := undef) s120x121 (by decide)
      replace s125 := sl_other (d := 126) (u := undef) s125 (by decide)
      replace hF := hF.put 126 (undef) (by decide)
      generalize b8.put (some 126) (undef) = b9 at *
      refine wpList_skip (wantsUn g127 hg125 s125) ?_
      rw [d127]
      have s127 := sl_same (v := undef) (fr_lt hF hN (show 127 < 148 by decide))
      replace s120x121 := sl_other (d := 127) (u := undef) s120x121 (by decide)
      replace s125 := sl_other (d := 127) (u := undef) s125 (by decide)
      replace hF := hF.put 127 (undef) (by decide)
      generalize b9.put (some 127) (undef) = b10 at *
      refine wpList_skip (wantsUn g128 hg125 s125) ?_
      rw [d128]
      have s128 := sl_same (v := undef) (fr_lt hF hN (show 128 < 148 by decide))
      replace s120x121 := sl_other (d := 128) (u := undef) s120x121 (by decide)
      replace s125 := sl_other (d := 128) (u := undef) s125 (by decide)
      replace hF := hF.put 128 (undef) (by decide)
      generalize b10.put (some 128) (undef) = b11 at *
      refine wpList_skip (wantsUn g129 hg125 s125) ?_
      rw [d129]
      have s129 := sl_same (v := undef) (fr_lt hF hN (show 129 < 148 by decide))
      replace s120x121 := sl_other (d := 129) (u := undef) s120x121 (by decide)
      replace s125 := sl_other (d := 129) (u := undef) s125 (by decide)
      replace hF := hF.put 129 (undef) (by decide)
      generalize b11.put (some 129) (undef) = b12 at *
      refine wpList_skip (wantsNo g130 hg120 s120x121 (by decide)) ?_
      rw [d130]
      have s130 := sl_same (v := undef) (fr_lt hF hN (show 130 < 148 by decide))
      replace s120x121 := sl_other (d := 130) (u := undef) s120x121 (by decide)
      replace hF := hF.put 130 (undef) (by decide)
      generalize b12.put (some 130) (undef) = b13 at *
      refine ls (v := .bool false) (wants0 g131) (run_pkF (by rw [e131]) (Sl_eval s120x121) (BigFrame.eval_const _ _)) ?_
      rw [d131]
      have s131 := sl_same (v := .bool false) (fr_lt hF hN (show 131 < 148 by decide))
      replace hF := hF.put 131 (.bool false) (by decide)
      generalize b13.put (some 131) (.bool false) = b14 at *
      exact seg1 _ _ hW hF (s131.trans (by simp [hb121]))
    · have s120x121 := s120
      rw [hb121] at s120x121
      refine ls (v := .pointer (some ⟨A, 13, none⟩)) (wants g121 hg120 s120x121) (run_fa (by rw [e121]) (Sl_eval ((hF.k 1 (by decide)).trans i1)) (by decide)) ?_
      rw [d121]
      have s121 := sl_same (v := .pointer (some ⟨A, 13, none⟩)) (fr_lt hF hN (show 121 < 148 by decide))
      replace s120x121 := sl_other (d := 121) (u := .pointer (some ⟨A, 13, none⟩)) s120x121 (by decide)
      replace hF := hF.put 121 (.pointer (some ⟨A, 13, none⟩)) (by decide)
      generalize b3.put (some 121) (.pointer (some ⟨A, 13, none⟩)) = b15 at *
      refine ls (v := .slice ia ni ic) (wants g122 hg120 s120x121) (run_lds (by rw [e122]) (Sl_eval s121) (hM _ hW).c13 (Or.inl rfl)) ?_
      rw [d122]
      have s122 := sl_same (v := .slice ia ni ic) (fr_lt hF hN (show 122 < 148 by decide))
      replace s120x121 := sl_other (d := 122) (u := .slice ia ni ic) s120x121 (by decide)
      replace hF := hF.put 122 (.slice ia ni ic) (by decide)
      generalize b15.put (some 122) (.slice ia ni ic) = b16 at *
      refine ls (v := .int .i64 ((ni : Int))) (wants g123 hg120 s120x121) (run_lensl (by rw [e123]) (Sl_eval s122) (Or.inl rfl)) ?_
      rw [d123]
      have s123 := sl_same (v := .int .i64 ((ni : Int))) (fr_lt hF hN (show 123 < 148 by decide))
      replace s120x121 := sl_other (d := 123) (u := .int .i64 ((ni : Int))) s120x121 (by decide)
      replace hF := hF.put 123 (.int .i64 ((ni : Int))) (by decide)
      generalize b16.put (some 123) (.int .i64 ((ni : Int))) = b17 at *
      refine ls (v := .bool q124) (wants g124 hg120 s120x121) ((run_lss (by rw [e124]) (Sl_eval s123) (BigFrame.eval_const _ _) (Or.inl ⟨rfl, rfl⟩)).trans (by rw [h124])) ?_
      rw [d124]
      have s124 := sl_same (v := .bool q124) (fr_lt hF hN (show 124 < 148 by decide))
      replace s120x121 := sl_other (d := 124) (u := .bool q124) s120x121 (by decide)
      replace hF := hF.put 124 (.bool q124) (by decide)
      generalize b17.put (some 124) (.bool q124) = b18 at *
      refine ls (v := .bool q124) (wants g125 hg120 s120x121) (run_mv (by rw [e125]) (Sl_eval s124)) ?_
      rw [d125]
      have s125 := sl_same (v := .bool q124) (fr_lt hF hN (show 125 < 148 by decide))
      replace s120x121 := sl_other (d := 125) (u := .bool q124) s120x121 (by decide)
      replace hF := hF.put 125 (.bool q124) (by decide)
      generalize b18.put (some 125) (.bool q124) = b19 at *
      rcases hb126 : q124 with _ | _
      · have s125x126 := s125
        rw [hb126] at s125x126
        refine ls (v := .pointer (some ⟨A, 13, none⟩)) (wants g126 hg125 s125x126) (run_fa (by rw [e126]) (Sl_eval ((hF.k 1 (by decide)).trans i1)) (by decide)) ?_
        rw [d126]
        have s126 := sl_same (v := .pointer (some ⟨A, 13, none⟩)) (fr_lt hF hN (show 126 < 148 by decide))
        replace s120x121 := sl_other (d := 126) (u := .pointer (some ⟨A, 13, none⟩)) s120x121 (by decide)
        replace s125x126 := sl_other (d := 126) (u := .pointer (some ⟨A, 13, none⟩)) s125x126 (by decide)
        replace hF := hF.put 126 (.pointer (some ⟨A, 13, none⟩)) (by decide)
        generalize b19.put (some 126) (.pointer (some ⟨A, 13, none⟩)) = b20 at *
        refine ls (v := .slice ia ni ic) (wants g127 hg125 s125x126) (run_lds (by rw [e127]) (Sl_eval s126) (hM _ hW).c13 (Or.inl rfl)) ?_
        rw [d127]
        have s127 := sl_same (v := .slice ia ni ic) (fr_lt hF hN (show 127 < 148 by decide))
        replace s120x121 := sl_other (d := 127) (u := .slice ia ni ic) s120x121 (by decide)
        replace s125x126 := sl_other (d := 127) (u := .slice ia ni ic) s125x126 (by decide)
        replace hF := hF.put 127 (.slice ia ni ic) (by decide)
        generalize b20.put (some 127) (.slice ia ni ic) = b21 at *
        refine ls (v := .int .i64 ((ni : Int))) (wants g128 hg125 s125x126) (run_lensl (by rw [e128]) (Sl_eval s127) (Or.inl rfl)) ?_
        rw [d128]
        have s128 := sl_same (v := .int .i64 ((ni : Int))) (fr_lt hF hN (show 128 < 148 by decide))
        replace s120x121 := sl_other (d := 128) (u := .int .i64 ((ni : Int))) s120x121 (by decide)
        replace s125x126 := sl_other (d := 128) (u := .int .i64 ((ni : Int))) s125x126 (by decide)
        replace hF := hF.put 128 (.int .i64 ((ni : Int))) (by decide)
        generalize b21.put (some 128) (.int .i64 ((ni : Int))) = b22 at *
        refine ls (v := .bool q129) (wants g129 hg125 s125x126) ((run_gtr (by rw [e129]) (Sl_eval s128) (BigFrame.eval_const _ _) (Or.inl ⟨rfl, rfl⟩)).trans (by rw [h129])) ?_
        rw [d129]
        have s129 := sl_same (v := .bool q129) (fr_lt hF hN (show 129 < 148 by decide))
        replace s120x121 := sl_other (d := 129) (u := .bool q129) s120x121 (by decide)
        replace s125x126 := sl_other (d := 129) (u := .bool q129) s125x126 (by decide)
        replace hF := hF.put 129 (.bool q129) (by decide)
        generalize b22.put (some 129) (.bool q129) = b23 at *
        refine ls (v := .bool q129) (wants g130 hg120 s120x121) (run_pkF (by rw [e130]) (Sl_eval s125x126) (Sl_eval s129)) ?_
        rw [d130]
        have s130 := sl_same (v := .bool q129) (fr_lt hF hN (show 130 < 148 by decide))
        replace s120x121 := sl_other (d := 130) (u := .bool q129) s120x121 (by decide)
        replace hF := hF.put 130 (.bool q129) (by decide)
        generalize b23.put (some 130) (.bool q129) = b24 at *
        refine ls (v := .bool q129) (wants0 g131) (run_pkT (by rw [e131]) (Sl_eval s120x121) (Sl_eval s130)) ?_
        rw [d131]
        have s131 := sl_same (v := .bool q129) (fr_lt hF hN (show 131 < 148 by decide))
        replace hF := hF.put 131 (.bool q129) (by decide)
        generalize b24.put (some 131) (.bool q129) = b25 at *
        exact seg1 _ _ hW hF (s131.trans (by simp [hb121, hb126]))
      · have s125x126 := s125
        rw [hb126] at s125x126
        refine wpList_skip (wantsNo g126 hg125 s125x126 (by decide)) ?_
        rw [d126]
        have s126 := sl_same (v := undef) (fr_lt hF hN (show 126 < 148 by decide))
        replace s120x121 := sl_other (d := 126) (u := undef) s120x121 (by decide)
        replace s125x126 := sl_other (d := 126) (u := undef) s125x126 (by decide)
        replace hF := hF.put 126 (undef) (by decide)
        generalize b19.put (some 126) (undef) = b26 at *
        refine wpList_skip (wantsNo g127 hg125 s125x126 (by decide)) ?_
        rw [d127]
        have s127 := sl_same (v := undef) (fr_lt hF hN (show 127 < 148 by decide))
        replace s120x121 := sl_other (d := 127) (u := undef) s120x121 (by decide)
        replace s125x126 := sl_other (d := 127) (u := undef) s125x126 (by decide)
        replace hF := hF.put 127 (undef) (by decide)
        generalize b26.put (some 127) (undef) = b27 at *
        refine wpList_skip (wantsNo g128 hg125 s125x126 (by decide)) ?_
        rw [d128]
        have s128 := sl_same (v := undef) (fr_lt hF hN (show 128 < 148 by decide))
        replace s120x121 := sl_other (d := 128) (u := undef) s120x121 (by decide)
        replace s125x126 := sl_other (d := 128) (u := undef) s125x126 (by decide)
        replace hF := hF.put 128 (undef) (by decide)
        generalize b27.put (some 128) (undef) = b28 at *
        refine wpList_skip (wantsNo g129 hg125 s125x126 (by decide)) ?_
        rw [d129]
        have s129 := sl_same (v := undef) (fr_lt hF hN (show 129 < 148 by decide))
        replace s120x121 := sl_other (d := 129) (u := undef) s120x121 (by decide)
        replace s125x126 := sl_other (d := 129) (u := undef) s125x126 (by decide)
        replace hF := hF.put 129 (undef) (by decide)
        generalize b28.put (some 129) (undef) = b29 at *
        refine ls (v := .bool true) (wants g130 hg120 s120x121) (run_pkT (by rw [e130]) (Sl_eval s125x126) (BigFrame.eval_const _ _)) ?_
        rw [d130]
        have s130 := sl_same (v := .bool true) (fr_lt hF hN (show 130 < 148 by decide))
        replace s120x121 := sl_other (d := 130) (u := .bool true) s120x121 (by decide)
        replace hF := hF.put 130 (.bool true) (by decide)
        generalize b29.put (some 130) (.bool true) = b30 at *
        refine ls (v := .bool true) (wants0 g131) (run_pkT (by rw [e131]) (Sl_eval s120x121) (Sl_eval s130)) ?_
        rw [d131]
        have s131 := sl_same (v := .bool true) (fr_lt hF hN (show 131 < 148 by decide))
        replace hF := hF.put 131 (.bool true) (by decide)
        generalize b30.put (some 131) (.bool true) = b31 at *
        exact seg1 _ _ hW hF (s131.trans (by simp [hb121, hb126]))
  exact seg0 a0 w0 (Below.refl _ _) (Fr.refl _ _ _)
end Go.Proofs.Ytembppihfcclcaa
