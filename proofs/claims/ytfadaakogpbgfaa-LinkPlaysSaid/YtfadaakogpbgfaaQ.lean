/-
  Link: Quiet; the few examples are told.
-/
import Derived.Test.YtfadaakogpbgfaaP
namespace Go.Proofs.Ytfadaakogpbgfaa
set_option linter.unusedVariables false
open Go.ChangeShapes Go.WideShapes Go.ChangeAt Go.RowKit Go.Sort

def quietF (t now : Int) : Int := if now < t then 0 else wrap64 (now - t)
theorem one_quiet {w0 w : World} {h : Nat} {nx t l : Int} {m : Nat} {is : Bool} {zs : List Int} (o : One w0 w h nx t l m is zs) (now : Int) :
    Calls Try.prog 14 #[.pointer (some ⟨h + 1, 0, none⟩), .int .i64 now] w fun e w' => e = .returned (.int .i64 (quietF t now)) ∧ w = w' := by
  obtain ⟨v, hL, hO⟩ := o.ex
  unfold quietF
  by_cases hn : now < t
  · rw [if_pos hn]; exact quiet_lt _ nx v h t now (decide_eq_true hn) w hL
  · rw [if_neg hn]; exact quiet_ge _ nx v h t now (decide_eq_false hn) w hL
set_option maxHeartbeats 1000000 in
theorem told_law (w : World) : Calls Try.prog 9 #[] w fun e w' => e = .returned (.bool true) ∧ Below w.heap.size w w' := by
  go_enter Try.func9, Try.ntmps9
  go_wp2_with fail
  refine (one_new 5 _).mono ?_
  rintro e w1 ⟨rfl, O1⟩
  generalize hb : w.heap.size = b at O1 ⊢
  have HB := Lib.hid hb
  have O1 := Lib.hid O1
  clear hb
  go_wp2_with fail
  refine (one_stamp O1.out (by decide)).mono ?_
  rintro e w2 ⟨rfl, O2⟩
  rw [show IntKind.u16.wrap (1 + 1) = 2 from by decide, show cut64 ([] ++ [1]) = [1] from by decide] at O2
  have O2 := Lib.hid O2
  clear O1
  go_wp2_with fail
  refine (one_stamp O2.out (by decide)).mono ?_
  rintro e w3 ⟨rfl, O3⟩
  rw [show IntKind.u16.wrap (2 + 1) = 3 from by decide, show cut64 ([1] ++ [2]) = [1, 2] from by decide] at O3
  have O3 := Lib.hid O3
  clear O2
  go_wp2_with fail
  refine (one_hear O3.out (by decide) (by decide) _ _ _ _).mono ?_
  rintro e w4 ⟨rfl, O4⟩
  rw [show noteB false 0 1 0 = true from by decide]
  rw [show max (5 : Int) 9 = 9 from by decide, show noteL false 0 1 = 1 from by decide, show noteM false 0 1 0 = 0 from by decide, show ([1, 2].filter fun x => !toldF x 1 0) = [2] from by decide +kernel] at O4
  have O4 := Lib.hid O4
  clear O3
  go_wp2_with fail
  refine (one_hear O4.out (by decide) (by decide) _ _ _ _).mono ?_
  rintro e w5 ⟨rfl, O5⟩
  rw [show noteB true 1 1 0 = false from by decide]
  rw [show max (9 : Int) 9 = 9 from by decide, show noteL true 1 1 = 1 from by decide, show noteM true 1 1 0 = 0 from by decide, show ([2].filter fun x => !toldF x 1 0) = [2] from by decide +kernel] at O5
  have O5 := Lib.hid O5
  clear O4
  go_wp2_with fail
  refine (one_open O5.out (by decide)).mono ?_
  rintro e w6 ⟨v6, rfl, ho, O6⟩
  have O6 := Lib.hid O6
  clear O5
  rcases ho with ⟨-, hc⟩ | ⟨g, off, cap, rfl, hg1, hg2, hr⟩
  · cases hc
  have hcell := hr.cell 0 (by decide)
  rw [Nat.add_zero, show [(2 : Int)].getD 0 0 = 2 from rfl] at hcell
  clear hr hg1
  go_wp2_with fail
  refine (stamp_nil _).mono ?_
  rintro e w' ⟨rfl, rfl⟩
  go_wp2_with fail
  refine (one_quiet O6.out 12).mono ?_
  rintro e w' ⟨rfl, rfl⟩
  rw [show quietF 9 12 = 3 from by decide +kernel]
  go_wp2_with fail
  refine (one_quiet O6.out 2).mono ?_
  rintro e w' ⟨rfl, rfl⟩
  rw [show quietF 9 2 = 0 from by decide +kernel]
  go_wp2_with fail
  refine (open_nil _).mono ?_
  rintro e w' ⟨rfl, rfl⟩
  go_wp2_with fail
  refine (hear_nil _ _ _ _ _).mono ?_
  rintro e w7 ⟨rfl, hB7⟩
  go_wp2_with fail
  refine (quiet_nil _ _).mono ?_
  rintro e w' ⟨rfl, rfl⟩
  go_wp2_with fail
  go_ret
  exact ⟨rfl, by rw [HB.out]; exact (O6.out.below hB7).bel⟩
end Go.Proofs.Ytfadaakogpbgfaa
