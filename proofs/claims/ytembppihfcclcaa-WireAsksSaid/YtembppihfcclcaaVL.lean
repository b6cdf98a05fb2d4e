/-
  Wire: the reference's Front and Same.
-/
import Derived.Test.YtembppihfcclcaaVG
import Derived.Test.YtembppihfcclcaaVJ
import Derived.Test.YtembppihfcclcaaR
import Derived.Deep.DeepCutAuto
namespace Go.Proofs.Ytembppihfcclcaa
set_option linter.unusedVariables false
open Go.ChangeShapes Go.WideShapes Go.ChangeAt Go.RowKit

set_option linter.unusedSimpArgs false
theorem run_cv {o : Oper} {a : Act} {w : World} {x : Operand} {v : Value} {s : ByteArray} (ho : o.op = .convert 28 9 x) (hx : a.eval x = v) (hc : (convert 28 9 v).run Try.prog w = .ok (.string s) w) : (execOp a.eval o).run Try.prog w = .ok (.value (.string s)) w := by
  unfold execOp
  simp only [ho, hx, Sem.run_bind, hc, Result.andThen_ok, Sem.run_pure]
theorem run_nes {o : Oper} {a : Act} {w : World} {x y : Operand} {s t : ByteArray} (ho : o.op = .binOp .neq 9 x y 9) (hx : a.eval x = .string s) (hy : a.eval y = .string t) : (execOp a.eval o).run Try.prog w = .ok (.value (.bool (!(s.toList == t.toList)))) w := by
  unfold execOp
  rw [ho]
  simp only [hx, hy]
  simp [go_sem]; try go_simp
theorem Fr.trans2 {lo mid hi : Nat} {a b c : Act} (h1 : Fr lo mid a b) (h2 : Fr mid hi b c) (hl : lo ≤ mid) (hh : mid ≤ hi) : Fr lo hi a c :=
  ⟨h2.d.trans h1.d, h2.n.trans h1.n, fun i hi' => (h2.k i (by omega)).trans (h1.k i (by omega))⟩
set_option maxHeartbeats 4000000 in
theorem regS {ops : Array Oper} {rest : List Oper} {Q : Exit → Act → World → Prop} {a0 : Act} {w : World} {A B : Nat} {F G : Nat → Int} {ia la da ia2 la2 da2 : Option Addr} {ni ic nl lc dl dc ni2 ic2 nl2 lc2 dl2 dc2 : Nat} {sd sd2 : ByteArray} {p : Bool} {q120 q111 q102 : Bool} {o95 o96 o97 o98 o99 o100 o101 o102 o103 o104 o105 o106 o107 o108 o109 o110 o111 o112 o113 o114 o115 o116 o117 o118 o119 o120 o121 : Oper}
    (e95 : o95 = { o95 with dst := some 95, op := .move (.tmp 94), guard := none })
    (e96 : o96 = { o96 with dst := some 96, op := .fieldAddr 30 (.tmp 2) 15, guard := some (89, false) })
    (e97 : o97 = { o97 with dst := some 97, op := .load 28 (.tmp 96), guard := some (89, false) })
    (e98 : o98 = { o98 with dst := some 98, op := .convert 28 9 (.tmp 97), guard := some (89, false) })
    (e99 : o99 = { o99 with dst := some 99, op := .fieldAddr 30 (.tmp 3) 15, guard := some (89, false) })
    (e100 : o100 = { o100 with dst := some 100, op := .load 28 (.tmp 99), guard := some (89, false) })
    (e101 : o101 = { o101 with dst := some 101, op := .convert 28 9 (.tmp 100), guard := some (89, false) })
    (e102 : o102 = { o102 with dst := some 102, op := .binOp .neq 9 (.tmp 98) (.tmp 101) 9, guard := some (89, false) })
    (e103 : o103 = { o103 with dst := some 103, op := .pick (.tmp 95) (.const (.bool true)) (.tmp 102), guard := none })
    (e104 : o104 = { o104 with dst := some 104, op := .move (.tmp 103), guard := none })
    (e105 : o105 = { o105 with dst := some 105, op := .fieldAddr 30 (.tmp 2) 13, guard := some (98, false) })
    (e106 : o106 = { o106 with dst := some 106, op := .load 26 (.tmp 105), guard := some (98, false) })
    (e107 : o107 = { o107 with dst := some 107, op := .call { callee := .builtin .len, args := #[.tmp 106], argTypes := #[26] }, guard := some (98, false) })
    (e108 : o108 = { o108 with dst := some 108, op := .fieldAddr 30 (.tmp 3) 13, guard := some (98, false) })
    (e109 : o109 = { o109 with dst := some 109, op := .load 26 (.tmp 108), guard := some (98, false) })
    (e110 : o110 = { o110 with dst := some 110, op := .call { callee := .builtin .len, args := #[.tmp 109], argTypes := #[26] }, guard := some (98, false) })
    (e111 : o111 = { o111 with dst := some 111, op := .binOp .neq 3 (.tmp 107) (.tmp 110) 3, guard := some (98, false) })
    (e112 : o112 = { o112 with dst := some 112, op := .pick (.tmp 104) (.const (.bool true)) (.tmp 111), guard := none })
    (e113 : o113 = { o113 with dst := some 113, op := .move (.tmp 112), guard := none })
    (e114 : o114 = { o114 with dst := some 114, op := .fieldAddr 30 (.tmp 2) 14, guard := some (107, false) })
    (e115 : o115 = { o115 with dst := some 115, op := .load 27 (.tmp 114), guard := some (107, false) })
    (e116 : o116 = { o116 with dst := some 116, op := .call { callee := .builtin .len, args := #[.tmp 115], argTypes := #[27] }, guard := some (107, false) })
    (e117 : o117 = { o117 with dst := some 117, op := .fieldAddr 30 (.tmp 3) 14, guard := some (107, false) })
    (e118 : o118 = { o118 with dst := some 118, op := .load 27 (.tmp 117), guard := some (107, false) })
    (e119 : o119 = { o119 with dst := some 119, op := .call { callee := .builtin .len, args := #[.tmp 118], argTypes := #[27] }, guard := some (107, false) })
    (e120 : o120 = { o120 with dst := some 120, op := .binOp .neq 3 (.tmp 116) (.tmp 119) 3, guard := some (107, false) })
    (e121 : o121 = { o121 with dst := some 121, op := .pick (.tmp 113) (.const (.bool true)) (.tmp 120), guard := none })
    (hg95 : (ops[89]?).bind (·.dst) = some 95)
    (hg104 : (ops[98]?).bind (·.dst) = some 104)
    (hg113 : (ops[107]?).bind (·.dst) = some 113)
    (hN : 122 ≤ a0.tmps.size)
    (i2 : a0.tmps[2]? = some (.pointer (some ⟨A, 0, none⟩)))
    (i3 : a0.tmps[3]? = some (.pointer (some ⟨B, 0, none⟩)))
    (i94 : a0.tmps[94]? = some (.bool p))
    (cellA13 : w.cell? ⟨A, 13, none⟩ = some (.slice ia ni ic))
    (cellA14 : w.cell? ⟨A, 14, none⟩ = some (.slice la nl lc))
    (cellA15 : w.cell? ⟨A, 15, none⟩ = some (.slice da dl dc))
    (cellB13 : w.cell? ⟨B, 13, none⟩ = some (.slice ia2 ni2 ic2))
    (cellB14 : w.cell? ⟨B, 14, none⟩ = some (.slice la2 nl2 lc2))
    (cellB15 : w.cell? ⟨B, 15, none⟩ = some (.slice da2 dl2 dc2))
    (hcv1 : (convert 28 9 (.slice da dl dc)).run Try.prog w = .ok (.string sd) w) (hcv2 : (convert 28 9 (.slice da2 dl2 dc2)).run Try.prog w = .ok (.string sd2) w)
    (h120 : ((nl : Int) != (nl2 : Int)) = q120) (h111 : ((ni : Int) != (ni2 : Int)) = q111) (h102 : (!((sd).toList == (sd2).toList)) = q102)
    (h : ∀ a' , Fr 95 122 a0 a' → a'.tmps[121]? = some (.bool ((((p || q102) || q111) || q120))) → wpList Try.prog ops Q rest a' w) :
    wpList Try.prog ops Q (o95 :: o96 :: o97 :: o98 :: o99 :: o100 :: o101 :: o102 :: o103 :: o104 :: o105 :: o106 :: o107 :: o108 :: o109 :: o110 :: o111 :: o112 :: o113 :: o114 :: o115 :: o116 :: o117 :: o118 :: o119 :: o120 :: o121 :: rest) a0 w := by
  have g95 : o95.guard = none := by rw [e95]
  have d95 : o95.dst = some 95 := by rw [e95]
  have g96 : o96.guard = some (89, false) := by rw [e96]
  have d96 : o96.dst = some 96 := by rw [e96]
  have g97 : o97.guard = some (89, false) := by rw [e97]
  have d97 : o97.dst = some 97 := by rw [e97]
  have g98 : o98.guard = some (89, false) := by rw [e98]
  have d98 : o98.dst = some 98 := by rw [e98]
  have g99 : o99.guard = some (89, false) := by rw [e99]
  have d99 : o99.dst = some 99 := by rw [e99]
  have g100 : o100.guard = some (89, false) := by rw [e100]
  have d100 : o100.dst = some 100 := by rw [e100]
  have g101 : o101.guard = some (89, false) := by rw [e101]
  have d101 : o101.dst = some 101 := by rw [e101]
  have g102 : o102.guard = some (89, false) := by rw [e102]
  have d102 : o102.dst = some 102 := by rw [e102]
  have g103 : o103.guard = none := by rw [e103]
  have d103 : o103.dst = some 103 := by rw [e103]
  have g104 : o104.guard = none := by rw [e104]
  have d104 : o104.dst = some 104 := by rw [e104]
  have g105 : o105.guard = some (98, false) := by rw [e105]
  have d105 : o105.dst = some 105 := by rw [e105]
  have g106 : o106.guard = some (98, false) := by rw [e106]
  have d106 : o106.dst = some 106 := by rw [e106]
  have g107 : o107.guard = some (98, false) := by rw [e107]
  have d107 : o107.dst = some 107 := by rw [e107]
  have g108 : o108.guard = some (98, false) := by rw [e108]
  have d108 : o108.dst = some 108 := by rw [e108]
  have g109 : o109.guard = some (98, false) := by rw [e109]
  have d109 : o109.dst = some 109 := by rw [e109]
  have g110 : o110.guard = some (98, false) := by rw [e110]
  have d110 : o110.dst = some 110 := by rw [e110]
  have g111 : o111.guard = some (98, false) := by rw [e111]
  have d111 : o111.dst = some 111 := by rw [e111]
  have g112 : o112.guard = none := by rw [e112]
  have d112 : o112.dst = some 112 := by rw [e112]
  have g113 : o113.guard = none := by rw [e113]
  have d113 : o113.dst = some 113 := by rw [e113]
  have g114 : o114.guard = some (107, false) := by rw [e114]
  have d114 : o114.dst = some 114 := by rw [e114]
  have g115 : o115.guard = some (107, false) := by rw [e115]
  have d115 : o115.dst = some 115 := by rw [e115]
  have g116 : o116.guard = some (107, false) := by rw [e116]
  have d116 : o116.dst = some 116 := by rw [e116]
  have g117 : o117.guard = some (107, false) := by rw [e117]
  have d117 : o117.dst = some 117 := by rw [e117]
  have g118 : o118.guard = some (107, false) := by rw [e118]
  have d118 : o118.dst = some 118 := by rw [e118]
  have g119 : o119.guard = some (107, false) := by rw [e119]
  have d119 : o119.dst = some 119 := by rw [e119]
  have g120 : o120.guard = some (107, false) := by rw [e120]
  have d120 : o120.dst = some 120 := by rw [e120]
  have g121 : o121.guard = none := by rw [e121]
  have d121 : o121.dst = some 121 := by rw [e121]
  have seg2 : ∀ a1, Fr 95 122 a0 a1 → a1.tmps[112]? = some (.bool (((p || q102) || q111))) → wpList Try.prog ops Q (o113 :: o114 :: o115 :: o116 :: o117 :: o118 :: o119 :: o120 :: o121 :: rest) a1 w := by
    intro a1 hF s112
    refine ls (v := .bool (((p || q102) || q111))) (wants0 g113) (run_mv (by rw [e113]) (Sl_eval s112)) ?_
    rw [d113]
    have s113 := sl_same (v := .bool (((p || q102) || q111))) (fr_lt hF hN (show 113 < 122 by decide))
    replace hF := hF.put 113 (.bool (((p || q102) || q111))) (by decide)
    generalize a1.put (some 113) (.bool (((p || q102) || q111))) = b1 at *
    rcases hb114 : ((p || q102) || q111) with _ | _
    · have s113x114 := s113
      rw [hb114] at s113x114
      refine ls (v := .pointer (some ⟨A, 14, none⟩)) (wants g114 hg113 s113x114) (run_fa (by rw [e114]) (Sl_eval ((hF.k 2 (by decide)).trans i2)) (by decide)) ?_
      rw [d114]
      have s114 := sl_same (v := .pointer (some ⟨A, 14, none⟩)) (fr_lt hF hN (show 114 < 122 by decide))
      replace s113x114 := sl_other (d := 114) (u := .pointer (some ⟨A, 14, none⟩)) s113x114 (by decide)
      replace hF := hF.put 114 (.pointer (some ⟨A, 14, none⟩)) (by decide)
      generalize b1.put (some 114) (.pointer (some ⟨A, 14, none⟩)) = b2 at *
      refine ls (v := .slice la nl lc) (wants g115 hg113 s113x114) (run_lds (by rw [e115]) (Sl_eval s114) cellA14 (Or.inr (Or.inl rfl))) ?_
      rw [d115]
      have s115 := sl_same (v := .slice la nl lc) (fr_lt hF hN (show 115 < 122 by decide))
      replace s113x114 := sl_other (d := 115) (u := .slice la nl lc) s113x114 (by decide)
      replace hF := hF.put 115 (.slice la nl lc) (by decide)
      generalize b2.put (some 115) (.slice la nl lc) = b3 at *
      refine ls (v := .int .i64 ((nl : Int))) (wants g116 hg113 s113x114) (run_lensl (by rw [e116]) (Sl_eval s115) (Or.inr (Or.inl rfl))) ?_
      rw [d116]
      have s116 := sl_same (v := .int .i64 ((nl : Int))) (fr_lt hF hN (show 116 < 122 by decide))
      replace s113x114 := sl_other (d := 116) (u := .int .i64 ((nl : Int))) s113x114 (by decide)
      replace hF := hF.put 116 (.int .i64 ((nl : Int))) (by decide)
      generalize b3.put (some 116) (.int .i64 ((nl : Int))) = b4 at *
      refine ls (v := .pointer (some ⟨B, 14, none⟩)) (wants g117 hg113 s113x114) (run_fa (by rw [e117]) (Sl_eval ((hF.k 3 (by decide)).trans i3)) (by decide)) ?_
      rw [d117]
      have s117 := sl_same (v := .pointer (some ⟨B, 14, none⟩)) (fr_lt hF hN (show 117 < 122 by decide))
      replace s113x114 := sl_other (d := 117) (u := .pointer (some ⟨B, 14, none⟩)) s113x114 (by decide)
      replace s116 := sl_other (d := 117) (u := .pointer (some ⟨B, 14, none⟩)) s116 (by decide)
      replace hF := hF.put 117 (.pointer (some ⟨B, 14, none⟩)) (by decide)
      generalize b4.put (some 117) (.pointer (some ⟨B, 14, none⟩)) = b5 at *
      refine ls (v := .slice la2 nl2 lc2) (wants g118 hg113 s113x114) (run_lds (by rw [e118]) (Sl_eval s117) cellB14 (Or.inr (Or.inl rfl))) ?_
      rw [d118]
      have s118 := sl_same (v := .slice la2 nl2 lc2) (fr_lt hF hN (show 118 < 122 by decide))
      replace s113x114 := sl_other (d := 118) (u := .slice la2 nl2 lc2) s113x114 (by decide)
      replace s116 := sl_other (d := 118) (u := .slice la2 nl2 lc2) s116 (by decide)
      replace hF := hF.put 118 (.slice la2 nl2 lc2) (by decide)
      generalize b5.put (some 118) (.slice la2 nl2 lc2) = b6 at *
      refine ls (v := .int .i64 ((nl2 : Int))) (wants g119 hg113 s113x114) (run_lensl (by rw [e119]) (Sl_eval s118) (Or.inr (Or.inl rfl))) ?_
      rw [d119]
      have s119 := sl_same (v := .int .i64 ((nl2 : Int))) (fr_lt hF hN (show 119 < 122 by decide))
      replace s113x114 := sl_other (d := 119) (u := .int .i64 ((nl2 : Int))) s113x114 (by decide)
      replace s116 := sl_other (d := 119) (u := .int .i64 ((nl2 : Int))) s116 (by decide)
      replace hF := hF.put 119 (.int .i64 ((nl2 : Int))) (by decide)
      generalize b6.put (some 119) (.int .i64 ((nl2 : Int))) = b7 at *
      refine ls (v := .bool q120) (wants g120 hg113 s113x114) ((run_neq (by rw [e120]) (Sl_eval s116) (Sl_eval s119) (Or.inl ⟨rfl, rfl⟩)).trans (by rw [h120])) ?_
      rw [d120]
      have s120 := sl_same (v := .bool q120) (fr_lt hF hN (show 120 < 122 by decide))
      replace s113x114 := sl_other (d := 120) (u := .bool q120) s113x114 (by decide)
      replace hF := hF.put 120 (.bool q120) (by decide)
      generalize b7.put (some 120) (.bool q120) = b8 at *
      refine ls (v := .bool q120) (wants0 g121) (run_pkF (by rw [e121]) (Sl_eval s113x114) (Sl_eval s120)) ?_
      rw [d121]
      have s121 := sl_same (v := .bool q120) (fr_lt hF hN (show 121 < 122 by decide))
      replace hF := hF.put 121 (.bool q120) (by decide)
      generalize b8.put (some 121) (.bool q120) = b9 at *
      exact h _ hF (s121.trans (by simp [hb114]))
    · have s113x114 := s113
      rw [hb114] at s113x114
      refine wpList_skip (wantsNo g114 hg113 s113x114 (by decide)) ?_
      rw [d114]
      have s114 := sl_same (v := undef) (fr_lt hF hN (show 114 < 122 by decide))
      replace s113x114 := sl_other (d := 114) (u := undef) s113x114 (by decide)
      replace hF := hF.put 114 (undef) (by decide)
      generalize b1.put (some 114) (undef) = b10 at *
      refine wpList_skip (wantsNo g115 hg113 s113x114 (by decide)) ?_
      rw [d115]
      have s115 := sl_same (v := undef) (fr_lt hF hN (show 115 < 122 by decide))
      replace s113x114 := sl_other (d := 115) (u := undef) s113x114 (by decide)
      replace hF := hF.put 115 (undef) (by decide)
      generalize b10.put (some 115) (undef) = b11 at *
      refine wpList_skip (wantsNo g116 hg113 s113x114 (by decide)) ?_
      rw [d116]
      have s116 := sl_same (v := undef) (fr_lt hF hN (show 116 < 122 by decide))
      replace s113x114 := sl_other (d := 116) (u := undef) s113x114 (by decide)
      replace hF := hF.put 116 (undef) (by decide)
      generalize b11.put (some 116) (undef) = b12 at *
      refine wpList_skip (wantsNo g117 hg113 s113x114 (by decide)) ?_
      rw [d117]
      have s117 := sl_same (v := undef) (fr_lt hF hN (show 117 < 122 by decide))
      replace s113x114 := sl_other (d := 117) (u := undef) s113x114 (by decide)
      replace s116 := sl_other (d := 117) (u := undef) s116 (by decide)
      replace hF := hF.put 117 (undef) (by decide)
      generalize b12.put (some 117) (undef) = b13 at *
      refine wpList_skip (wantsNo g118 hg113 s113x114 (by decide)) ?_
      rw [d118]
      have s118 := sl_same (v := undef) (fr_lt hF hN (show 118 < 122 by decide))
      replace s113x114 := sl_other (d := 118) (u := undef) s113x114 (by decide)
      replace s116 := sl_other (d := 118) (u := undef) s116 (by decide)
      replace hF := hF.put 118 (undef) (by decide)
      generalize b13.put (some 118) (undef) = b14 at *
      refine wpList_skip (wantsNo g119 hg113 s113x114 (by decide)) ?_
      rw [d119]
      have s119 := sl_same (v := undef) (fr_lt hF hN (show 119 < 122 by decide))
      replace s113x114 := sl_other (d := 119) (u := undef) s113x114 (by decide)
      replace s116 := sl_other (d := 119) (u := undef) s116 (by decide)
      replace hF := hF.put 119 (undef) (by decide)
      generalize b14.put (some 119) (undef) = b15 at *
      refine wpList_skip (wantsNo g120 hg113 s113x114 (by decide)) ?_
      rw [d120]
      have s120 := sl_same (v := undef) (fr_lt hF hN (show 120 < 122 by decide))
      replace s113x114 := sl_other (d := 120) (u := undef) s113x114 (by decide)
      replace hF := hF.put 120 (undef) (by decide)
      generalize b15.put (some 120) (undef) = b16 at *
      refine ls (v := .bool true) (wants0 g121) (run_pkT (by rw [e121]) (Sl_eval s113x114) (BigFrame.eval_const _ _)) ?_
      rw [d121]
      have s121 := sl_same (v := .bool true) (fr_lt hF hN (show 121 < 122 by decide))
      replace hF := hF.put 121 (.bool true) (by decide)
      generalize b16.put (some 121) (.bool true) = b17 at *
      exact h _ hF (s121.trans (by simp [hb114]))
  have seg1 : ∀ a1, Fr 95 122 a0 a1 → a1.tmps[103]? = some (.bool ((p || q102))) → wpList Try.prog ops Q (o104 :: o105 :: o106 :: o107 :: o108 :: o109 :: o110 :: o111 :: o112 :: o113 :: o114 :: o115 :: o116 :: o117 :: o118 :: o119 :: o120 :: o121 :: rest) a1 w := by
    intro a1 hF s103
    refine ls (v := .bool ((p || q102))) (wants0 g104) (run_mv (by rw [e104]) (Sl_eval s103)) ?_
    rw [d104]
    have s104 := sl_same (v := .bool ((p || q102))) (fr_lt hF hN (show 104 < 122 by decide))
    replace hF := hF.put 104 (.bool ((p || q102))) (by decide)
    generalize a1.put (some 104) (.bool ((p || q102))) = b1 at *
    rcases hb105 : (p || q102) with _ | _
    · have s104x105 := s104
      rw [hb105] at s104x105
      refine ls (v := .pointer (some ⟨A, 13, none⟩)) (wants g105 hg104 s104x105) (run_fa (by rw [e105]) (Sl_eval ((hF.k 2 (by decide)).trans i2)) (by decide)) ?_
      rw [d105]
      have s105 := sl_same (v := .pointer (some ⟨A, 13, none⟩)) (fr_lt hF hN (show 105 < 122 by decide))
      replace s104x105 := sl_other (d := 105) (u := .pointer (some ⟨A, 13, none⟩)) s104x105 (by decide)
      replace hF := hF.put 105 (.pointer (some ⟨A, 13, none⟩)) (by decide)
      generalize b1.put (some 105) (.pointer (some ⟨A, 13, none⟩)) = b2 at *
      refine ls (v := .slice ia ni ic) (wants g106 hg104 s104x105) (run_lds (by rw [e106]) (Sl_eval s105) cellA13 (Or.inl rfl)) ?_
      rw [d106]
      have s106 := sl_same (v := .slice ia ni ic) (fr_lt hF hN (show 106 < 122 by decide))
      replace s104x105 := sl_other (d := 106) (u := .slice ia ni ic) s104x105 (by decide)
      replace hF := hF.put 106 (.slice ia ni ic) (by decide)
      generalize b2.put (some 106) (.slice ia ni ic) = b3 at *
      refine ls (v := .int .i64 ((ni : Int))) (wants g107 hg104 s104x105) (run_lensl (by rw [e107]) (Sl_eval s106) (Or.inl rfl)) ?_
      rw [d107]
      have s107 := sl_same (v := .int .i64 ((ni : Int))) (fr_lt hF hN (show 107 < 122 by decide))
      replace s104x105 := sl_other (d := 107) (u := .int .i64 ((ni : Int))) s104x105 (by decide)
      replace hF := hF.put 107 (.int .i64 ((ni : Int))) (by decide)
      generalize b3.put (some 107) (.int .i64 ((ni : Int))) = b4 at *
      refine ls (v := .pointer (some ⟨B, 13, none⟩)) (wants g108 hg104 s104x105) (run_fa (by rw [e108]) (Sl_eval ((hF.k 3 (by decide)).trans i3)) (by decide)) ?_
      rw [d108]
      have s108 := sl_same (v := .pointer (some ⟨B, 13, none⟩)) (fr_lt hF hN (show 108 < 122 by decide))
      replace s104x105 := sl_other (d := 108) (u := .pointer (some ⟨B, 13, none⟩)) s104x105 (by decide)
      replace s107 := sl_other (d := 108) (u := .pointer (some ⟨B, 13, none⟩)) s107 (by decide)
      replace hF := hF.put 108 (.pointer (some ⟨B, 13, none⟩)) (by decide)
      generalize b4.put (some 108) (.pointer (some ⟨B, 13, none⟩)) = b5 at *
      refine ls (v := .slice ia2 ni2 ic2) (wants g109 hg104 s104x105) (run_lds (by rw [e109]) (Sl_eval s108) cellB13 (Or.inl rfl)) ?_
      rw [d109]
      have s109 := sl_same (v := .slice ia2 ni2 ic2) (fr_lt hF hN (show 109 < 122 by decide))
      replace s104x105 := sl_other (d := 109) (u := .slice ia2 ni2 ic2) s104x105 (by decide)
      replace s107 := sl_other (d := 109) (u := .slice ia2 ni2 ic2) s107 (by decide)
      replace hF := hF.put 109 (.slice ia2 ni2 ic2) (by decide)
      generalize b5.put (some 109) (.slice ia2 ni2 ic2) = b6 at *
      refine ls (v := .int .i64 ((ni2 : Int))) (wants g110 hg104 s104x105) (run_lensl (by rw [e110]) (Sl_eval s109) (Or.inl rfl)) ?_
      rw [d110]
      have s110 := sl_same (v := .int .i64 ((ni2 : Int))) (fr_lt hF hN (show 110 < 122 by decide))
      replace s104x105 := sl_other (d := 110) (u := .int .i64 ((ni2 : Int))) s104x105 (by decide)
      replace s107 := sl_other (d := 110) (u := .int .i64 ((ni2 : Int))) s107 (by decide)
      replace hF := hF.put 110 (.int .i64 ((ni2 : Int))) (by decide)
      generalize b6.put (some 110) (.int .i64 ((ni2 : Int))) = b7 at *
      refine ls (v := .bool q111) (wants g111 hg104 s104x105) ((run_neq (by rw [e111]) (Sl_eval s107) (Sl_eval s110) (Or.inl ⟨rfl, rfl⟩)).trans (by rw [h111])) ?_
      rw [d111]
      have s111 := sl_same (v := .bool q111) (fr_lt hF hN (show 111 < 122 by decide))
      replace s104x105 := sl_other (d := 111) (u := .bool q111) s104x105 (by decide)
      replace hF := hF.put 111 (.bool q111) (by decide)
      generalize b7.put (some 111) (.bool q111) = b8 at *
      refine ls (v := .bool q111) (wants0 g112) (run_pkF (by rw [e112]) (Sl_eval s104x105) (Sl_eval s111)) ?_
      rw [d112]
      have s112 := sl_same (v := .bool q111) (fr_lt hF hN (show 112 < 122 by decide))
      replace hF := hF.put 112 (.bool q111) (by decide)
      generalize b8.put (some 112) (.bool q111) = b9 at *
      exact seg2 _ hF (s112.trans (by simp [hb105]))
    · have s104x105 := s104
      rw [hb105] at s104x105
      refine wpList_skip (wantsNo g105 hg104 s104x105 (by decide)) ?_
      rw [d105]
      have s105 := sl_same (v := undef) (fr_lt hF hN (show 105 < 122 by decide))
      replace s104x105 := sl_other (d := 105) (u := undef) s104x105 (by decide)
      replace hF := hF.put 105 (undef) (by decide)
      generalize b1.put (some 105) (undef) = b10 at *
      refine wpList_skip (wantsNo g106 hg104 s104x105 (by decide)) ?_
      rw [d106]
      have s106 := sl_same (v := undef) (fr_lt hF hN (show 106 < 122 by decide))
      replace s104x105 := sl_other (d := 106) (u := undef) s104x105 (by decide)
      replace hF := hF.put 106 (undef) (by decide)
      generalize b10.put (some 106) (undef) = b11 at *
      refine wpList_skip (wantsNo g107 hg104 s104x105 (by decide)) ?_
      rw [d107]
      have s107 := sl_same (v := undef) (fr_lt hF hN (show 107 < 122 by decide))
      replace s104x105 := sl_other (d := 107) (u := undef) s104x105 (by decide)
      replace hF := hF.put 107 (undef) (by decide)
      generalize b11.put (some 107) (undef) = b12 at *
      refine wpList_skip (wantsNo g108 hg104 s104x105 (by decide)) ?_
      rw [d108]
      have s108 := sl_same (v := undef) (fr_lt hF hN (show 108 < 122 by decide))
      replace s104x105 := sl_other (d := 108) (u := undef) s104x105 (by decide)
      replace s107 := sl_other (d := 108) (u := undef) s107 (by decide)
      replace hF := hF.put 108 (undef) (by decide)
      generalize b12.put (some 108) (undef) = b13 at *
      refine wpList_skip (wantsNo g109 hg104 s104x105 (by decide)) ?_
      rw [d109]
      have s109 := sl_same (v := undef) (fr_lt hF hN (show 109 < 122 by decide))
      replace s104x105 := sl_other (d := 109) (u := undef) s104x105 (by decide)
      replace s107 := sl_other (d := 109) (u := undef) s107 (by decide)
      replace hF := hF.put 109 (undef) (by decide)
      generalize b13.put (some 109) (undef) = b14 at *
      refine wpList_skip (wantsNo g110 hg104 s104x105 (by decide)) ?_
      rw [d110]
      have s110 := sl_same (v := undef) (fr_lt hF hN (show 110 < 122 by decide))
      replace s104x105 := sl_other (d := 110) (u := undef) s104x105 (by decide)
      replace s107 := sl_other (d := 110) (u := undef) s107 (by decide)
      replace hF := hF.put 110 (undef) (by decide)
      generalize b14.put (some 110) (undef) = b15 at *
      refine wpList_skip (wantsNo g111 hg104 s104x105 (by decide)) ?_
      rw [d111]
      have s111 := sl_same (v := undef) (fr_lt hF hN (show 111 < 122 by decide))
      replace s104x105 := sl_other (d := 111) (u := undef) s104x105 (by decide)
      replace hF := hF.put 111 (undef) (by decide)
      generalize b15.put (some 111) (undef) = b16 at *
      refine ls (v := .bool true) (wants0 g112) (run_pkT (by rw [e112]) (Sl_eval s104x105) (BigFrame.eval_const _ _)) ?_
      rw [d112]
      have s112 := sl_same (v := .bool true) (fr_lt hF hN (show 112 < 122 by decide))
      replace hF := hF.put 112 (.bool true) (by decide)
      generalize b16.put (some 112) (.bool true) = b17 at *
      exact seg2 _ hF (s112.trans (by simp [hb105]))
  have seg0 : ∀ a1, Fr 95 122 a0 a1 → wpList Try.prog ops Q (o95 :: o96 :: o97 :: o98 :: o99 :: o100 :: o101 :: o102 :: o103 :: o104 :: o105 :: o106 :: o107 :: o108 :: o109 :: o110 :: o111 :: o112 :: o113 :: o114 :: o115 :: o116 :: o117 :: o118 :: o119 :: o120 :: o121 :: rest) a1 w := by
    intro a1 hF
    refine ls (v := .bool p) (wants0 g95) (run_mv (by rw [e95]) (Sl_eval ((hF.k 94 (by decide)).trans i94))) ?_
    rw [d95]
    have s95 := sl_same (v := .bool p) (fr_lt hF hN (show 95 < 122 by decide))
    replace hF := hF.put 95 (.bool p) (by decide)
    generalize a1.put (some 95) (.bool p) = b1 at *
    rcases hb96 : p with _ | _
    · have s95x96 := s95
      rw [hb96] at s95x96
      refine ls (v := .pointer (some ⟨A, 15, none⟩)) (wants g96 hg95 s95x96) (run_fa (by rw [e96]) (Sl_eval ((hF.k 2 (by decide)).trans i2)) (by decide)) ?_
      rw [d96]
      have s96 := sl_same (v := .pointer (some ⟨A, 15, none⟩)) (fr_lt hF hN (show 96 < 122 by decide))
      replace s95x96 := sl_other (d := 96) (u := .pointer (some ⟨A, 15, none⟩)) s95x96 (by decide)
      replace hF := hF.put 96 (.pointer (some ⟨A, 15, none⟩)) (by decide)
      generalize b1.put (some 96) (.pointer (some ⟨A, 15, none⟩)) = b2 at *
      refine ls (v := .slice da dl dc) (wants g97 hg95 s95x96) (run_lds (by rw [e97]) (Sl_eval s96) cellA15 (Or.inr (Or.inr rfl))) ?_
      rw [d97]
      have s97 := sl_same (v := .slice da dl dc) (fr_lt hF hN (show 97 < 122 by decide))
      replace s95x96 := sl_other (d := 97) (u := .slice da dl dc) s95x96 (by decide)
      replace hF := hF.put 97 (.slice da dl dc) (by decide)
      generalize b2.put (some 97) (.slice da dl dc) = b3 at *
      refine ls (v := .string (sd)) (wants g98 hg95 s95x96) (run_cv (by rw [e98]) (Sl_eval s97) hcv1) ?_
      rw [d98]
      have s98 := sl_same (v := .string (sd)) (fr_lt hF hN (show 98 < 122 by decide))
      replace s95x96 := sl_other (d := 98) (u := .string (sd)) s95x96 (by decide)
      replace hF := hF.put 98 (.string (sd)) (by decide)
      generalize b3.put (some 98) (.string (sd)) = b4 at *
      refine ls (v := .pointer (some ⟨B, 15, none⟩)) (wants g99 hg95 s95x96) (run_fa (by rw [e99]) (Sl_eval ((hF.k 3 (by decide)).trans i3)) (by decide)) ?_
      rw [d99]
      have s99 := sl_same (v := .pointer (some ⟨B, 15, none⟩)) (fr_lt hF hN (show 99 < 122 by decide))
      replace s95x96 := sl_other (d := 99) (u := .pointer (some ⟨B, 15, none⟩)) s95x96 (by decide)
      replace s98 := sl_other (d := 99) (u := .pointer (some ⟨B, 15, none⟩)) s98 (by decide)
      replace hF := hF.put 99 (.pointer (some ⟨B, 15, none⟩)) (by decide)
      generalize b4.put (some 99) (.pointer (some ⟨B, 15, none⟩)) = b5 at *
      refine ls (v := .slice da2 dl2 dc2) (wants g100 hg95 s95x96) (run_lds (by rw [e100]) (Sl_eval s99) cellB15 (Or.inr (Or.inr rfl))) ?_
      rw [d100]
      have s100 := sl_same (v := .slice da2 dl2 dc2) (fr_lt hF hN (show 100 < 122 by decide))
      replace s95x96 := sl_other (d := 100) (u := .slice da2 dl2 dc2) s95x96 (by decide)
      replace s98 := sl_other (d := 100) (u := .slice da2 dl2 dc2) s98 (by decide)
      replace hF := hF.put 100 (.slice da2 dl2 dc2) (by decide)
      generalize b5.put (some 100) (.slice da2 dl2 dc2) = b6 at *
      refine ls (v := .string (sd2)) (wants g101 hg95 s95x96) (run_cv (by rw [e101]) (Sl_eval s100) hcv2) ?_
      rw [d101]
      have s101 := sl_same (v := .string (sd2)) (fr_lt hF hN (show 101 < 122 by decide))
      replace s95x96 := sl_other (d := 101) (u := .string (sd2)) s95x96 (by decide)
      replace s98 := sl_other (d := 101) (u := .string (sd2)) s98 (by decide)
      replace hF := hF.put 101 (.string (sd2)) (by decide)
      generalize b6.put (some 101) (.string (sd2)) = b7 at *
      refine ls (v := .bool q102) (wants g102 hg95 s95x96) ((run_nes (by rw [e102]) (Sl_eval s98) (Sl_eval s101)).trans (by rw [h102])) ?_
      rw [d102]
      have s102 := sl_same (v := .bool q102) (fr_lt hF hN (show 102 < 122 by decide))
      replace s95x96 := sl_other (d := 102) (u := .bool q102) s95x96 (by decide)
      replace hF := hF.put 102 (.bool q102) (by decide)
      generalize b7.put (some 102) (.bool q102) = b8 at *
      refine ls (v := .bool q102) (wants0 g103) (run_pkF (by rw [e103]) (Sl_eval s95x96) (Sl_eval s102)) ?_
      rw [d103]
      have s103 := sl_same (v := .bool q102) (fr_lt hF hN (show 103 < 122 by decide))
      replace hF := hF.put 103 (.bool q102) (by decide)
      generalize b8.put (some 103) (.bool q102) = b9 at *
      exact seg1 _ hF (s103.trans (by simp [hb96]))
    · have s95x96 := s95
      rw [hb96] at s95x96
      refine wpList_skip (wantsNo g96 hg95 s95x96 (by decide)) ?_
      rw [d96]
      have s96 := sl_same (v := undef) (fr_lt hF hN (show 96 < 122 by decide))
      replace s95x96 := sl_other (d := 96) (u := undef) s95x96 (by decide)
      replace hF := hF.put 96 (undef) (by decide)
      generalize b1.put (some 96) (undef) = b10 at *
      refine wpList_skip (wantsNo g97 hg95 s95x96 (by decide)) ?_
      rw [d97]
      have s97 := sl_same (v := undef) (fr_lt hF hN (show 97 < 122 by decide))
      replace s95x96 := sl_other (d := 97) (u := undef) s95x96 (by decide)
      replace hF := hF.put 97 (undef) (by decide)
      generalize b10.put (some 97) (undef) = b11 at *
      refine wpList_skip (wantsNo g98 hg95 s95x96 (by decide)) ?_
      rw [d98]
      have s98 := sl_same (v := undef) (fr_lt hF hN (show 98 < 122 by decide))
      replace s95x96 := sl_other (d := 98) (u := undef) s95x96 (by decide)
      replace hF := hF.put 98 (undef) (by decide)
      generalize b11.put (some 98) (undef) = b12 at *
      refine wpList_skip (wantsNo g99 hg95 s95x96 (by decide)) ?_
      rw [d99]
      have s99 := sl_same (v := undef) (fr_lt hF hN (show 99 < 122 by decide))
      replace s95x96 := sl_other (d := 99) (u := undef) s95x96 (by decide)
      replace s98 := sl_other (d := 99) (u := undef) s98 (by decide)
      replace hF := hF.put 99 (undef) (by decide)
      generalize b12.put (some 99) (undef) = b13 at *
      refine wpList_skip (wantsNo g100 hg95 s95x96 (by decide)) ?_
      rw [d100]
      have s100 := sl_same (v := undef) (fr_lt hF hN (show 100 < 122 by decide))
      replace s95x96 := sl_other (d := 100) (u := undef) s95x96 (by decide)
      replace s98 := sl_other (d := 100) (u := undef) s98 (by decide)
      replace hF := hF.put 100 (undef) (by decide)
      generalize b13.put (some 100) (undef) = b14 at *
      refine wpList_skip (wantsNo g101 hg95 s95x96 (by decide)) ?_
      rw [d101]
      have s101 := sl_same (v := undef) (fr_lt hF hN (show 101 < 122 by decide))
      replace s95x96 := sl_other (d := 101) (u := undef) s95x96 (by decide)
      replace s98 := sl_other (d := 101) (u := undef) s98 (by decide)
      replace hF := hF.put 101 (undef) (by decide)
      generalize b14.put (some 101) (undef) = b15 at *
      refine wpList_skip (wantsNo g102 hg95 s95x96 (by decide)) ?_
      rw [d102]
      have s102 := sl_same (v := undef) (fr_lt hF hN (show 102 < 122 by decide))
      replace s95x96 := sl_other (d := 102) (u := undef) s95x96 (by decide)
      replace hF := hF.put 102 (undef) (by decide)
      generalize b15.put (some 102) (undef) = b16 at *
      refine ls (v := .bool true) (wants0 g103) (run_pkT (by rw [e103]) (Sl_eval s95x96) (BigFrame.eval_const _ _)) ?_
      rw [d103]
      have s103 := sl_same (v := .bool true) (fr_lt hF hN (show 103 < 122 by decide))
      replace hF := hF.put 103 (.bool true) (by decide)
      generalize b16.put (some 103) (.bool true) = b17 at *
      exact seg1 _ hF (s103.trans (by simp [hb96]))
  exact seg0 a0 (Fr.refl _ _ _)
set_option maxHeartbeats 2000000 in
theorem frontRef_any (n n' : Nat) (D D' : Nat → Ent) (v v' : Value) (w : World) (h : EntsV w v n D) (h' : EntsV w v' n' D') (hnn : n ≤ n') :
    Calls Try.prog 49 #[v, v'] w fun e w' => e = .returned (.bool (entsEq D D' n)) ∧ Below w.heap.size w w' := by
  obtain ⟨a, cap, rfl, hnc, hcm, hev⟩ := h
  obtain ⟨a', cap', rfl, hnc', hcm', hev'⟩ := h'
  unfold maxLen at hcm hcm'
  have hgt : ¬ ((n' : Int) < (n : Int)) := by omega
  have HEV := Lib.hid hev
  have HEV' := Lib.hid hev'
  clear hev hev'
  go_enter Try.func49, Try.ntmps49
  go_wp2_with fail
  go_loopw [5] (fun i wr => ∃ k : Nat, k ≤ n ∧ i = .int .i64 k ∧ entsEq D D' k = true ∧ Below w.heap.size w wr) (fun i _ => n - (intOf i).toNat)
  case atStart => exact ⟨0, Nat.zero_le _, rfl, rfl, Below.refl _ _⟩
  case round =>
    obtain ⟨k, hk, rfl, hok, hB⟩ := hrel
    have HB := Lib.hid hB
    have HOK := Lib.hid hok
    clear hok
    by_cases hlt : k < n
    · obtain ⟨b, o, rfl, hbl, hin0⟩ := HEV.out (by omega)
      obtain ⟨b', o', rfl, hbl', hin0'⟩ := HEV'.out (by omega)
      obtain ⟨sv, he0, hs0⟩ := (hin0.below hB (Nat.le_refl _)) k hlt
      obtain ⟨sv', he0', hs0'⟩ := (hin0'.below hB (Nat.le_refl _)) k (by omega)
      have HC := Lib.hid (fun d os => he0.block ((below_regrown wr d os).block b he0.lt))
      have HC' := Lib.hid (fun d os => he0'.block ((below_regrown wr d os).block b' he0'.lt))
      have hki : (k : Int) < (n : Int) := by omega
      have hki' : (k : Int) < (n' : Int) := by omega
      have HN : Hid (entsEq D D' (k + 1) = (entsEq D D' k && sameD (D k) (D' k))) := Lib.hid rfl
      have HMono := Lib.hid (entsEq_mono D D' (k + 1) n (by omega))
      have HCall : Hid (∀ d os, Calls Try.prog 63 #[.agg (entL (D k).fr sv (D k).I).toArray, .agg (entL (D' k).fr sv' (D' k).I).toArray] (Go.Sort.grow (redrawn wr d) os) fun e w' => e = .returned (.bool (sameD (D k) (D' k))) ∧ Below (Go.Sort.grow (redrawn wr d) os).heap.size (Go.Sort.grow (redrawn wr d) os) w') := Lib.hid (fun d os => sameRef_any _ sv _ _ _ _ sv' _ _ _ _ (hs0.below (below_regrown wr d os) (Nat.le_refl _)) (hs0'.below (below_regrown wr d os) (Nat.le_refl _)))
      clear hB he0 he0' hs0 hs0' hin0 hin0'
      generalize D k = x at *
      generalize D' k = y at *
      generalize hsd : sameD x y = sd at *
      clear hsd
      go_wp2_with fail
      refine wp_region_quiet_below (by kernel_rfl) (by kernel_rfl) ?_
      iterate 3 (go_big_quiet_step (fail))
      refine quiet_load_entW (by rfl) _ rfl b (o + k * 26) rfl _ (by rintro w' ⟨p, rfl⟩; exact (HC.out p.d p.os).range) (size_ent _ _ _) ?_
      simp only [Act.put, List.setIfInBounds_toArray, List.set_cons_zero, List.set_cons_succ]
      iterate 3 (go_big_quiet_step (fail))
      refine quiet_load_entW (by rfl) _ rfl b' (o' + k * 26) rfl _ (by rintro w' ⟨p, rfl⟩; exact (HC'.out p.d p.os).range) (size_ent _ _ _) ?_
      simp only [Act.put, List.setIfInBounds_toArray, List.set_cons_zero, List.set_cons_succ]
      go_big_quiet_step (exact Calls.regrown_of (HCall.out _ _))
      repeat (go_big_quiet_step (fail))
      refine wpQuiet_nil ?_
      intro w10 hw'
      obtain ⟨⟨nq, osq⟩, hw3⟩ := hw'
      have HW := Lib.hid (HB.out.trans ((below_regrown _ nq osq).mono HB.out.size))
      rw [← hw3] at HW
      clear hw3 HC HC' HCall HB
      cases sd with
      | false =>
        have HRel := Lib.hid (HMono.out (by rw [HN.out, Bool.and_false]))
        clear HN HMono
        go_wp2_with fail
        go_ret
        exact ⟨by rw [HRel.out]; rfl, HW.out⟩
      | true =>
        have HRel : Hid (entsEq D D' (k + 1) = true) := Lib.hid (by rw [HN.out, HOK.out]; rfl)
        clear HN HMono
        go_wp2_with fail
        exact ⟨⟨k + 1, by omega, by go_num, HRel.out, HW.out⟩, by simp [intOf]; omega⟩
    · obtain rfl : k = n := by omega
      go_wp2_with fail
      go_ret
      exact ⟨by rw [HOK.out]; rfl, hB⟩
theorem neChain (F G : Nat → Int) : (F 0 != G 0 || F 1 != G 1 || F 2 != G 2 || F 3 != G 3 || F 4 != G 4 || F 5 != G 5 || F 6 != G 6 || F 7 != G 7 || F 8 != G 8 || F 9 != G 9 || F 10 != G 10 || F 11 != G 11 || F 12 != G 12) = !numB F G 13 := by
  simp only [numB, Bool.true_and, Bool.not_and, bne]
theorem sameM_split (M N : Msg) : sameM M N = (!(!numB M.F N.F 13 || !decide (M.d = N.d) || ((M.ni : Int) != N.ni) || ((M.nl : Int) != N.nl)) && (insEq M.I N.I M.ni && entsEq M.D N.D M.nl)) := by
  unfold sameM
  have e1 : decide (M.ni = N.ni) = !((M.ni : Int) != N.ni) := by rw [bne, Bool.not_not, Bool.eq_iff_iff, decide_eq_true_eq, beq_iff_eq]; omega
  have e2 : decide (M.nl = N.nl) = !((M.nl : Int) != N.nl) := by rw [bne, Bool.not_not, Bool.eq_iff_iff, decide_eq_true_eq, beq_iff_eq]; omega
  rw [e1, e2]
  simp only [Bool.not_or, Bool.not_not]
  ac_rfl
set_option maxRecDepth 100000 in
set_option maxHeartbeats 8000000 in
theorem sameRefM_any (M N : Msg) (iv lv dv iv' lv' dv' : Value) (w : World) (h : RowsV w iv lv dv M) (h' : RowsV w iv' lv' dv' N) (hd : ByteL M.d) (hd' : ByteL N.d) :
    Calls Try.prog 22 #[.agg (msgL M.F iv lv dv).toArray, .agg (msgL N.F iv' lv' dv').toArray] w fun e w' => e = .returned (.bool (sameM M N)) ∧ Below w.heap.size w w' := by
  have HS := Lib.hid (sameM_split M N)
  have HSE := Lib.hid (str_eq hd hd')
  have HNe := Lib.hid (neChain M.F N.F)
  clear hd hd'
  have hA1 := msgAt_new M.F iv lv dv 30 w
  have hB1 := (Below.refl w.heap.size w).alloc (Nat.le_refl _) (Obj.cells (msgL M.F iv lv dv).toArray 30)
  have hA2 := msgAt_new N.F iv' lv' dv' 30 (w.alloc (Obj.cells (msgL M.F iv lv dv).toArray 30))
  have hA1' := hA1.block (Below.heap_alloc _ (Obj.cells (msgL N.F iv' lv' dv').toArray 30) _ hA1.lt)
  have hB2 := hB1.alloc hB1.size (Obj.cells (msgL N.F iv' lv' dv').toArray 30)
  have hsz : (w.alloc (Obj.cells (msgL M.F iv lv dv).toArray 30)).heap.size = w.heap.size + 1 := by simp
  rw [hsz] at hA2
  have hR := h.below hB2 (Nat.le_refl _)
  have hR' := h'.below hB2 (Nat.le_refl _)
  obtain ⟨⟨ia, ic, rfl, hi1, hi2, -⟩, ⟨la, lc, rfl, hl1, hl2, -⟩, ⟨da, dc, rfl, hd1, hd2, -⟩⟩ := h
  obtain ⟨⟨ia2, ic2, rfl, hi1', hi2', -⟩, ⟨la2, lc2, rfl, hl1', hl2', -⟩, ⟨da2, dc2, rfl, hd1', hd2', -⟩⟩ := h'
  have HA := Lib.hid hA1'
  have HA' := Lib.hid hA2
  have HB := Lib.hid hB2
  have HR := Lib.hid hR
  have HR' := Lib.hid hR'
  unfold maxLen at hi2 hl2 hd2 hi2' hl2' hd2'
  clear hA1 hA2 hA1' hB1 hB2 hsz hR hR'
  go_enter Try.func22, Try.ntmps22
  go_upto_region 1 with (fail)
  generalize (w.alloc (Obj.cells (msgL M.F (.slice ia M.ni ic) (.slice la M.nl lc) (.slice da M.d.length dc)).toArray 30)).alloc (Obj.cells (msgL N.F (.slice ia2 N.ni ic2) (.slice la2 N.nl lc2) (.slice da2 N.d.length dc2)).toArray 30) = w1 at *
  have HV1 := Lib.hid (conv_anyW HR.out.d)
  have HV2 := Lib.hid (conv_anyW HR'.out.d)
  refine wp_region_lit ?_
  refine blkS0 false 6 95 5 0 w.heap.size (w.heap.size + 1) rfl rfl rfl rfl rfl (of_decide_eq_true (by kernel_rfl)) (by decide) rfl rfl (by decide) HA.out.c0 HA'.out.c0 (Or.inl ⟨rfl, rfl⟩) ?_
  intro a1 hF1 hs1
  refine blkS false 6 95 10 11 5 1 w.heap.size (w.heap.size + 1) rfl rfl rfl rfl rfl rfl rfl rfl (of_decide_eq_true (by kernel_rfl)) (by decide) hF1 hs1 rfl rfl (by decide) HA.out.c1 HA'.out.c1 (Or.inl ⟨rfl, rfl⟩) ?_
  clear hF1 hs1
  intro a2 hF2 hs2
  refine blkS false 6 95 17 18 12 2 w.heap.size (w.heap.size + 1) rfl rfl rfl rfl rfl rfl rfl rfl (of_decide_eq_true (by kernel_rfl)) (by decide) hF2 hs2 rfl rfl (by decide) HA.out.c2 HA'.out.c2 (Or.inr (Or.inl ⟨rfl, rfl⟩)) ?_
  clear hF2 hs2
  intro a3 hF3 hs3
  refine blkS false 6 95 24 25 19 3 w.heap.size (w.heap.size + 1) rfl rfl rfl rfl rfl rfl rfl rfl (of_decide_eq_true (by kernel_rfl)) (by decide) hF3 hs3 rfl rfl (by decide) HA.out.c3 HA'.out.c3 (Or.inr (Or.inl ⟨rfl, rfl⟩)) ?_
  clear hF3 hs3
  intro a4 hF4 hs4
  refine blkS false 6 95 31 32 26 4 w.heap.size (w.heap.size + 1) rfl rfl rfl rfl rfl rfl rfl rfl (of_decide_eq_true (by kernel_rfl)) (by decide) hF4 hs4 rfl rfl (by decide) HA.out.c4 HA'.out.c4 (Or.inr (Or.inr (Or.inl ⟨rfl, rfl⟩))) ?_
  clear hF4 hs4
  intro a5 hF5 hs5
  refine blkS false 6 95 38 39 33 5 w.heap.size (w.heap.size + 1) rfl rfl rfl rfl rfl rfl rfl rfl (of_decide_eq_true (by kernel_rfl)) (by decide) hF5 hs5 rfl rfl (by decide) HA.out.c5 HA'.out.c5 (Or.inl ⟨rfl, rfl⟩) ?_
  clear hF5 hs5
  intro a6 hF6 hs6
  refine blkS false 6 95 45 46 40 6 w.heap.size (w.heap.size + 1) rfl rfl rfl rfl rfl rfl rfl rfl (of_decide_eq_true (by kernel_rfl)) (by decide) hF6 hs6 rfl rfl (by decide) HA.out.c6 HA'.out.c6 (Or.inl ⟨rfl, rfl⟩) ?_
  clear hF6 hs6
  intro a7 hF7 hs7
  refine blkS false 6 95 52 53 47 7 w.heap.size (w.heap.size + 1) rfl rfl rfl rfl rfl rfl rfl rfl (of_decide_eq_true (by kernel_rfl)) (by decide) hF7 hs7 rfl rfl (by decide) HA.out.c7 HA'.out.c7 (Or.inl ⟨rfl, rfl⟩) ?_
  clear hF7 hs7
  intro a8 hF8 hs8
  refine blkS false 6 95 59 60 54 8 w.heap.size (w.heap.size + 1) rfl rfl rfl rfl rfl rfl rfl rfl (of_decide_eq_true (by kernel_rfl)) (by decide) hF8 hs8 rfl rfl (by decide) HA.out.c8 HA'.out.c8 (Or.inl ⟨rfl, rfl⟩) ?_
  clear hF8 hs8
  intro a9 hF9 hs9
  refine blkS false 6 95 66 67 61 9 w.heap.size (w.heap.size + 1) rfl rfl rfl rfl rfl rfl rfl rfl (of_decide_eq_true (by kernel_rfl)) (by decide) hF9 hs9 rfl rfl (by decide) HA.out.c9 HA'.out.c9 (Or.inl ⟨rfl, rfl⟩) ?_
  clear hF9 hs9
  intro a10 hF10 hs10
  refine blkS false 6 95 73 74 68 10 w.heap.size (w.heap.size + 1) rfl rfl rfl rfl rfl rfl rfl rfl (of_decide_eq_true (by kernel_rfl)) (by decide) hF10 hs10 rfl rfl (by decide) HA.out.c10 HA'.out.c10 (Or.inl ⟨rfl, rfl⟩) ?_
  clear hF10 hs10
  intro a11 hF11 hs11
  refine blkS false 6 95 80 81 75 11 w.heap.size (w.heap.size + 1) rfl rfl rfl rfl rfl rfl rfl rfl (of_decide_eq_true (by kernel_rfl)) (by decide) hF11 hs11 rfl rfl (by decide) HA.out.c11 HA'.out.c11 (Or.inr (Or.inr (Or.inl ⟨rfl, rfl⟩))) ?_
  clear hF11 hs11
  intro a12 hF12 hs12
  refine blkS false 6 95 87 88 82 12 w.heap.size (w.heap.size + 1) rfl rfl rfl rfl rfl rfl rfl rfl (of_decide_eq_true (by kernel_rfl)) (by decide) hF12 hs12 rfl rfl (by decide) HA.out.c12 HA'.out.c12 (Or.inr (Or.inr (Or.inr ⟨rfl, rfl⟩))) ?_
  clear hF12 hs12
  intro a13 hF13 hs13
  have hs94 : a13.tmps[94]? = some (.bool (!numB M.F N.F 13)) := hs13.trans (congrArg (fun b => some (Value.bool b)) HNe.out)
  clear hs13
  refine regS (A := w.heap.size) (B := w.heap.size + 1) (F := M.F) (G := N.F) (ia := ia) (ni := M.ni) (ic := ic) (la := la) (nl := M.nl) (lc := lc) (da := da) (dl := M.d.length) (dc := dc) (ia2 := ia2) (ni2 := N.ni) (ic2 := ic2) (la2 := la2) (nl2 := N.nl) (lc2 := lc2) (da2 := da2) (dl2 := N.d.length) (dc2 := dc2) (sd := strOfNums M.d) (sd2 := strOfNums N.d) (p := !numB M.F N.F 13) (cellA13 := HA.out.c13) (cellA14 := HA.out.c14) (cellA15 := HA.out.c15) (cellB13 := HA'.out.c13) (cellB14 := HA'.out.c14) (cellB15 := HA'.out.c15) (hcv1 := HV1.out) (hcv2 := HV2.out) (e95 := rfl) (e96 := rfl) (e97 := rfl) (e98 := rfl) (e99 := rfl) (e100 := rfl) (e101 := rfl) (e102 := rfl) (e103 := rfl) (e104 := rfl) (e105 := rfl) (e106 := rfl) (e107 := rfl) (e108 := rfl) (e109 := rfl) (e110 := rfl) (e111 := rfl) (e112 := rfl) (e113 := rfl) (e114 := rfl) (e115 := rfl) (e116 := rfl) (e117 := rfl) (e118 := rfl) (e119 := rfl) (e120 := rfl) (e121 := rfl) (hg95 := rfl) (hg104 := rfl) (hg113 := rfl) (hN := by rw [hF13.n]; exact of_decide_eq_true (by kernel_rfl)) (i2 := (hF13.k 2 (by decide)).trans rfl) (i3 := (hF13.k 3 (by decide)).trans rfl) (i94 := hs94) (h120 := rfl) (h111 := rfl) (h102 := rfl) (h := ?_)
  intro a' hF hs
  have hs' : a'.tmps[121]? = some (.bool (!numB M.F N.F 13 || !((strOfNums M.d).toList == (strOfNums N.d).toList) || ((M.ni : Int) != N.ni) || ((M.nl : Int) != N.nl))) := hs
  rw [HSE.out] at hs'
  clear hs hs94 HV1 HV2 HNe HSE
  obtain ⟨u, hu⟩ := (hF13.trans2 hF (by decide) (by decide)).lit
  have hl : a' = ⟨#[.agg (msgL M.F (.slice ia M.ni ic) (.slice la M.nl lc) (.slice da M.d.length dc)).toArray, .agg (msgL N.F (.slice ia2 N.ni ic2) (.slice la2 N.nl lc2) (.slice da2 N.d.length dc2)).toArray, .pointer (some ⟨w.heap.size, 0, none⟩), .pointer (some ⟨w.heap.size + 1, 0, none⟩), .bool false, undef, u 6, u 7, u 8, u 9, u 10, u 11, u 12, u 13, u 14, u 15, u 16, u 17, u 18, u 19, u 20, u 21, u 22, u 23, u 24, u 25, u 26, u 27, u 28, u 29, u 30, u 31, u 32, u 33, u 34, u 35, u 36, u 37, u 38, u 39, u 40, u 41, u 42, u 43, u 44, u 45, u 46, u 47, u 48, u 49, u 50, u 51, u 52, u 53, u 54, u 55, u 56, u 57, u 58, u 59, u 60, u 61, u 62, u 63, u 64, u 65, u 66, u 67, u 68, u 69, u 70, u 71, u 72, u 73, u 74, u 75, u 76, u 77, u 78, u 79, u 80, u 81, u 82, u 83, u 84, u 85, u 86, u 87, u 88, u 89, u 90, u 91, u 92, u 93, u 94, u 95, u 96, u 97, u 98, u 99, u 100, u 101, u 102, u 103, u 104, u 105, u 106, u 107, u 108, u 109, u 110, u 111, u 112, u 113, u 114, u 115, u 116, u 117, u 118, u 119, u 120, u 121, undef, undef, undef, undef, undef, undef, undef, undef, undef, undef, undef, undef, undef, undef, undef, undef, undef, undef, undef, undef, undef, undef, undef], []⟩ := hu.trans (by kernel_rfl)
  clear hu hF hF13
  subst hl
  have hsl := Option.some.inj hs'
  clear hs'
  have hsl' : u 121 = .bool (!numB M.F N.F 13 || !decide (M.d = N.d) || ((M.ni : Int) != N.ni) || ((M.nl : Int) != N.nl)) := hsl
  rw [hsl']
  clear hsl hsl'
  generalize hq : (!numB M.F N.F 13 || !decide (M.d = N.d) || ((M.ni : Int) != N.ni) || ((M.nl : Int) != N.nl)) = q at *
  cases q with
  | true =>
    have HQ : Hid (sameM M N = false) := Lib.hid (by rw [HS.out]; rfl)
    clear hq
    go_wp2_with fail
    go_ret
    exact ⟨by rw [HQ.out]; rfl, HB.out⟩
  | false =>
    have hni : M.ni = N.ni ∧ M.nl = N.nl := by
      simp only [Bool.or_eq_false_iff, bne_eq_false_iff_eq] at hq
      omega
    have HNI := Lib.hid hni
    clear hni
    replace HS : Hid (sameM M N = (insEq M.I N.I M.ni && entsEq M.D N.D M.nl)) := Lib.hid (by rw [HS.out]; rfl)
    clear hq
    have HEvI := Lib.hid HR.out.i
    have HEvI' := Lib.hid HR'.out.i
    have HEvL := Lib.hid HR.out.l
    have HEvL' := Lib.hid HR'.out.l
    clear HR HR'
    go_wp2_with fail
    have hA0 := HA.out.lt
    have hA0' := HA'.out.lt
    go_loopw [5] (fun i wr => ∃ k : Nat, k ≤ M.ni ∧ i = .int .i64 k ∧ insEq M.I N.I k = true ∧ Below w1.heap.size w1 wr) (fun i _ => M.ni - (intOf i).toNat)
    case atStart => exact ⟨0, Nat.zero_le _, rfl, rfl, Below.refl _ _⟩
    case round =>
      obtain ⟨k, hk, rfl, hok, hW⟩ := hrel
      have HOK := Lib.hid hok
      have HW := Lib.hid hW
      have HAr := Lib.hid (HA.out.block (hW.block _ hA0))
      have HAr' := Lib.hid (HA'.out.block (hW.block _ hA0'))
      have c13 := HAr.out.c13
      clear hok
      by_cases hlt : k < M.ni
      · obtain ⟨aa, cc, ee, -, -, hev⟩ := HEvI.out
        injection ee with e1 e2 e3
        subst e1
        obtain ⟨b, o, rfl, hbl, hin0⟩ := hev (by omega)
        have hltN : k < N.ni := by have := HNI.out.1; omega
        obtain ⟨aa', cc', ee', -, -, hev'⟩ := HEvI'.out
        injection ee' with e1' e2' e3'
        subst e1'
        obtain ⟨b', o', rfl, hbl', hin0'⟩ := hev' (by omega)
        have hin := hin0.block (hW.block b hbl)
        have hin' := hin0'.block (hW.block b' hbl')
        have d0 := cell_regrown (hin.x k hlt)
        have d1 := cell_regrown (hin.y k hlt)
        have d2 := cell_regrown (hin.z k hlt)
        have d0' := cell_regrown (hin'.x k hltN)
        have d1' := cell_regrown (hin'.y k hltN)
        have d2' := cell_regrown (hin'.z k hltN)
        have z13 := cell_regrown HAr.out.c13
        have z13' := cell_regrown HAr'.out.c13
        have hki : (k : Int) < (M.ni : Int) := by omega
        have hki' : (k : Int) < (N.ni : Int) := by omega
        have HN : Hid (insEq M.I N.I (k + 1) = (insEq M.I N.I k && (M.I (k * 3) == N.I (k * 3) && (M.I (k * 3 + 1) == N.I (k * 3 + 1) && M.I (k * 3 + 2) == N.I (k * 3 + 2))))) := Lib.hid rfl
        have HMono := Lib.hid (insEq_mono M.I N.I (k + 1) M.ni (by omega))
        clear hev hev' hin hin' hin0 hin0' e2 e3 e2' e3' hW
        generalize M.I (k * 3) = x0 at *
        generalize M.I (k * 3 + 1) = x1 at *
        generalize M.I (k * 3 + 2) = x2 at *
        generalize N.I (k * 3) = y0 at *
        generalize N.I (k * 3 + 1) = y1 at *
        generalize N.I (k * 3 + 2) = y2 at *
        rcases hb0 : (x0 == y0) with _ | _
        · have hrel : insEq M.I N.I (k + 1) = false := by rw [HN.out, hb0]; simp
          have HQ : Hid (sameM M N = false) := Lib.hid (by rw [HS.out, HMono.out hrel]; rfl)
          clear hrel HN
          go_wp2_with fail
          refine wp_region_quiet_below (by kernel_rfl) (by kernel_rfl) ?_
          repeat (go_big_quiet_step (fail))
          refine wpQuiet_nil ?_
          intro w10 hw'
          obtain ⟨⟨nq, osq⟩, hw3⟩ := hw'
          have HWn := Lib.hid (HW.out.trans ((below_regrown _ nq osq).mono HW.out.size))
          rw [← hw3] at HWn
          clear hw3 d0 d1 d2 d0' d1' d2' z13 z13'
          go_wp2_with fail
          go_ret
          exact ⟨by rw [HQ.out]; rfl, HB.out.trans (HWn.out.mono HB.out.size)⟩
        have e0 := eq_of_beq hb0
        subst e0
        rcases hb1 : (x1 == y1) with _ | _
        · have hrel : insEq M.I N.I (k + 1) = false := by rw [HN.out, hb1]; simp
          have HQ : Hid (sameM M N = false) := Lib.hid (by rw [HS.out, HMono.out hrel]; rfl)
          clear hrel HN
          go_wp2_with fail
          refine wp_region_quiet_below (by kernel_rfl) (by kernel_rfl) ?_
          repeat (go_big_quiet_step (fail))
          refine wpQuiet_nil ?_
          intro w10 hw'
          obtain ⟨⟨nq, osq⟩, hw3⟩ := hw'
          have HWn := Lib.hid (HW.out.trans ((below_regrown _ nq osq).mono HW.out.size))
          rw [← hw3] at HWn
          clear hw3 d0 d1 d2 d0' d1' d2' z13 z13'
          go_wp2_with fail
          go_ret
          exact ⟨by rw [HQ.out]; rfl, HB.out.trans (HWn.out.mono HB.out.size)⟩
        have e1 := eq_of_beq hb1
        subst e1
        rcases hb2 : (x2 == y2) with _ | _
        · have hrel : insEq M.I N.I (k + 1) = false := by rw [HN.out, hb2]; simp
          have HQ : Hid (sameM M N = false) := Lib.hid (by rw [HS.out, HMono.out hrel]; rfl)
          clear hrel HN
          go_wp2_with fail
          refine wp_region_quiet_below (by kernel_rfl) (by kernel_rfl) ?_
          repeat (go_big_quiet_step (fail))
          refine wpQuiet_nil ?_
          intro w10 hw'
          obtain ⟨⟨nq, osq⟩, hw3⟩ := hw'
          have HWn := Lib.hid (HW.out.trans ((below_regrown _ nq osq).mono HW.out.size))
          rw [← hw3] at HWn
          clear hw3 d0 d1 d2 d0' d1' d2' z13 z13'
          go_wp2_with fail
          go_ret
          exact ⟨by rw [HQ.out]; rfl, HB.out.trans (HWn.out.mono HB.out.size)⟩
        have e2 := eq_of_beq hb2
        subst e2
        have HRel : Hid (insEq M.I N.I (k + 1) = true) := Lib.hid (by rw [HN.out, HOK.out]; simp)
        clear HN
        go_wp2_with fail
        refine wp_region_quiet_below (by kernel_rfl) (by kernel_rfl) ?_
        repeat (go_big_quiet_step (fail))
        refine wpQuiet_nil ?_
        intro w10 hw'
        obtain ⟨⟨nq, osq⟩, hw3⟩ := hw'
        have HWn := Lib.hid (HW.out.trans ((below_regrown _ nq osq).mono HW.out.size))
        rw [← hw3] at HWn
        clear hw3 d0 d1 d2 d0' d1' d2' z13 z13'
        go_wp2_with fail
        exact ⟨⟨k + 1, by omega, by go_num, HRel.out, HWn.out⟩, by simp [intOf]; omega⟩
      · obtain rfl : k = M.ni := by omega
        replace HS : Hid (sameM M N = entsEq M.D N.D M.nl) := Lib.hid (by rw [HS.out, HOK.out, Bool.true_and])
        have c14 := HAr.out.c14
        have c14' := HAr'.out.c14
        clear hk hlt
        go_wp2_with fail
        refine (frontRef_any M.nl N.nl M.D N.D _ _ _ (HEvL.out.below hW (Nat.le_refl _)) (HEvL'.out.below hW (Nat.le_refl _)) (Nat.le_of_eq HNI.out.2)).mono ?_
        rintro e w5 ⟨rfl, hb5⟩
        have HBn := Lib.hid (HB.out.trans ((HW.out.trans (hb5.mono HW.out.size)).mono HB.out.size))
        clear hb5
        go_wp2_with fail
        go_ret
        exact ⟨by rw [HS.out]; rfl, HBn.out⟩
end Go.Proofs.Ytembppihfcclcaa
