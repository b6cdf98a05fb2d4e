/-
  Wire: Few.
-/
import Derived.Test.YtembppihfcclcaaMX
namespace Go.Proofs.Ytembppihfcclcaa
set_option linter.unusedVariables false
open Go.ChangeShapes Go.WideShapes Go.ChangeAt Go.RowKit

set_option linter.unusedSimpArgs false
def IsB (e : Ending) : Prop := ∃ b, e = .returned (.bool b)
theorem fewM_any (M : Msg) (iv lv dv : Value) (w : World) (hr : RowsV w iv lv dv M) :
    Calls Try.prog 15 #[.agg (msgL M.F iv lv dv).toArray] w fun e w' => IsB e ∧ Below w.heap.size w w' := by
  have HA := Lib.hid (msgAt_new M.F iv lv dv 30 w)
  have HB := Lib.hid ((Below.refl w.heap.size w).alloc (Nat.le_refl _) (Obj.cells (msgL M.F iv lv dv).toArray 30))
  have HRows := Lib.hid (hr.below HB.out (Nat.le_refl _))
  obtain ⟨⟨a1, cap1, rfl, hn1, hm1, -⟩, ⟨a2, cap2, rfl, hn2, hm2, hev⟩, ⟨a3, cap3, rfl, hn3, hm3, -⟩⟩ := hr
  have HEV := Lib.hid hev
  unfold maxLen at hm1 hm2 hm3
  have c13 := HA.out.c13
  have c14 := HA.out.c14
  have c15 := HA.out.c15
  clear hev
  generalize hni : M.ni = ni at *
  generalize hnl : M.nl = nl at *
  generalize hnd : M.d.length = nd at *
  generalize hF : M.F = F at *
  generalize hD : M.D = D at *
  clear hni hnd hF HRows
  by_cases h1 : 20 < ni
  · have h1' : (20 : Int) < (ni : Int) := by omega
    go_enter Try.func15, Try.ntmps15
    go_wp2_with fail
    go_ret
    exact ⟨⟨_, rfl⟩, HB.out⟩
  have h1' : ¬ (20 : Int) < (ni : Int) := by omega
  by_cases h2 : 20 < nl
  · have h2' : (20 : Int) < (nl : Int) := by omega
    go_enter Try.func15, Try.ntmps15
    go_wp2_with fail
    go_ret
    exact ⟨⟨_, rfl⟩, HB.out⟩
  have h2' : ¬ (20 : Int) < (nl : Int) := by omega
  by_cases h3 : 100 < nd
  · have h3' : (100 : Int) < (nd : Int) := by omega
    go_enter Try.func15, Try.ntmps15
    go_wp2_with fail
    go_ret
    exact ⟨⟨_, rfl⟩, HB.out⟩
  have h3' : ¬ (100 : Int) < (nd : Int) := by omega
  go_enter Try.func15, Try.ntmps15
  go_wp2_with fail
  clear c13 c14 c15
  generalize w.alloc (Obj.cells (msgL F (.slice a1 ni cap1) (.slice a2 nl cap2) (.slice a3 nd cap3)).toArray 30) = w1 at *
  go_loopw [3] (fun i wr => ∃ k : Nat, k ≤ nl ∧ i = .int .i64 k ∧ MsgAt wr w.heap.size F (.slice a1 ni cap1) (.slice a2 nl cap2) (.slice a3 nd cap3) ∧ Below w.heap.size w wr) (fun i _ => nl - (intOf i).toNat)
  case atStart => exact ⟨0, by omega, rfl, HA.out, HB.out⟩
  case round =>
    obtain ⟨k, hk, rfl, hA, hB⟩ := hrel
    clear HA HB
    have HA := Lib.hid hA
    have HB := Lib.hid hB
    have c14 := HA.out.c14
    clear hA
    by_cases hlt : k < nl
    · obtain ⟨b, o, rfl, hbl, hin⟩ := HEV.out (by omega)
      obtain ⟨sv, he, hs⟩ := (hin.below hB (Nat.le_refl _)) k hlt
      have hki : (k : Int) < (nl : Int) := by omega
      have HE := Lib.hid he
      have HS := Lib.hid hs
      clear hB he hs hin
      generalize D k = x at *
      go_wp2_with (refine wpList_load_g (by rfl) 37 _ rfl b (o + k * 26) rfl _ _ HE.out.range Try.underlying37 rfl (size_ent _ _ _) ?_)
      refine (few_any x.fr sv x.n x.E x.I _ HS.out).mono ?_
      rintro e w2 ⟨rfl, hb2⟩
      have HA2 := Lib.hid (HA.out.block (hb2.block _ HA.out.lt))
      have HB2 := Lib.hid (HB.out.trans (hb2.mono HB.out.size))
      clear hb2 HE HS HA HB c14
      cases hs : decide (x.n ≤ 20) with
      | false =>
        go_wp2_with fail
        go_ret
        exact ⟨⟨_, rfl⟩, HB2.out⟩
      | true =>
        go_wp2_with fail
        all_goals first | exact ⟨⟨k + 1, by omega, by go_num, HA2.out, HB2.out⟩, by simp [intOf]; omega⟩ | exact ⟨k + 1, by omega, by go_num, HA2.out, HB2.out⟩ | (simp [intOf]; omega) | go_roundw
    · obtain rfl : k = nl := by omega
      go_wp2_with fail
      go_ret
      exact ⟨⟨_, rfl⟩, hB⟩
end Go.Proofs.Ytembppihfcclcaa
