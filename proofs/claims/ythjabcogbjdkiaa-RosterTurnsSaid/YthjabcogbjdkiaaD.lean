/-
  Roster: a roster in memory; seat, Give, Take.
-/
import Derived.Test.YthjabcogbjdkiaaC
namespace Go.Proofs.Ythjabcogbjdkiaa
set_option linter.unusedVariables false
open Go.ChangeShapes Go.WideShapes Go.ChangeAt Go.RowKit

/-- A roster in memory, cell by cell. -/
structure RosC (w : World) (b : Nat) (v : Int) (P G : Nat → Int) : Prop where
  c0 : w.cell? ⟨b, 0, none⟩ = some (.int .i64 v)
  c1 : w.cell? ⟨b, 1, none⟩ = some (.int .i64 (P 0))
  c2 : w.cell? ⟨b, 2, none⟩ = some (.int .i64 (G 0))
  c3 : w.cell? ⟨b, 3, none⟩ = some (.int .i64 (P 1))
  c4 : w.cell? ⟨b, 4, none⟩ = some (.int .i64 (G 1))
  c5 : w.cell? ⟨b, 5, none⟩ = some (.int .i64 (P 2))
  c6 : w.cell? ⟨b, 6, none⟩ = some (.int .i64 (G 2))
  c7 : w.cell? ⟨b, 7, none⟩ = some (.int .i64 (P 3))
  c8 : w.cell? ⟨b, 8, none⟩ = some (.int .i64 (G 3))
  c9 : w.cell? ⟨b, 9, none⟩ = some (.int .i64 (P 4))
  c10 : w.cell? ⟨b, 10, none⟩ = some (.int .i64 (G 4))
  c11 : w.cell? ⟨b, 11, none⟩ = some (.int .i64 (P 5))
  c12 : w.cell? ⟨b, 12, none⟩ = some (.int .i64 (G 5))
  c13 : w.cell? ⟨b, 13, none⟩ = some (.int .i64 (P 6))
  c14 : w.cell? ⟨b, 14, none⟩ = some (.int .i64 (G 6))
  c15 : w.cell? ⟨b, 15, none⟩ = some (.int .i64 (P 7))
  c16 : w.cell? ⟨b, 16, none⟩ = some (.int .i64 (G 7))
  f0 : w.frozen? ⟨b, 0, none⟩ = false
  f1 : w.frozen? ⟨b, 1, none⟩ = false
  f2 : w.frozen? ⟨b, 2, none⟩ = false
  f3 : w.frozen? ⟨b, 3, none⟩ = false
  f4 : w.frozen? ⟨b, 4, none⟩ = false
  f5 : w.frozen? ⟨b, 5, none⟩ = false
  f6 : w.frozen? ⟨b, 6, none⟩ = false
  f7 : w.frozen? ⟨b, 7, none⟩ = false
  f8 : w.frozen? ⟨b, 8, none⟩ = false
  f9 : w.frozen? ⟨b, 9, none⟩ = false
  f10 : w.frozen? ⟨b, 10, none⟩ = false
  f11 : w.frozen? ⟨b, 11, none⟩ = false
  f12 : w.frozen? ⟨b, 12, none⟩ = false
  f13 : w.frozen? ⟨b, 13, none⟩ = false
  f14 : w.frozen? ⟨b, 14, none⟩ = false
  f15 : w.frozen? ⟨b, 15, none⟩ = false
  f16 : w.frozen? ⟨b, 16, none⟩ = false
theorem RosC.block {w w' : World} {b : Nat} {v : Int} {P G : Nat → Int} (a : RosC w b v P G) (k : w'.heap[b]? = w.heap[b]?) : RosC w' b v P G := by
  have hc : ∀ o, w'.cell? ⟨b, o, none⟩ = w.cell? ⟨b, o, none⟩ := fun o => World.cell?_of_block (w := w) k
  have hf : ∀ o, w'.frozen? ⟨b, o, none⟩ = w.frozen? ⟨b, o, none⟩ := fun o => World.frozen?_of_block (w := w) k
  exact ⟨(hc 0).trans a.c0, (hc 1).trans a.c1, (hc 2).trans a.c2, (hc 3).trans a.c3, (hc 4).trans a.c4, (hc 5).trans a.c5, (hc 6).trans a.c6, (hc 7).trans a.c7, (hc 8).trans a.c8, (hc 9).trans a.c9, (hc 10).trans a.c10, (hc 11).trans a.c11, (hc 12).trans a.c12, (hc 13).trans a.c13, (hc 14).trans a.c14, (hc 15).trans a.c15, (hc 16).trans a.c16, (hf 0).trans a.f0, (hf 1).trans a.f1, (hf 2).trans a.f2, (hf 3).trans a.f3, (hf 4).trans a.f4, (hf 5).trans a.f5, (hf 6).trans a.f6, (hf 7).trans a.f7, (hf 8).trans a.f8, (hf 9).trans a.f9, (hf 10).trans a.f10, (hf 11).trans a.f11, (hf 12).trans a.f12, (hf 13).trans a.f13, (hf 14).trans a.f14, (hf 15).trans a.f15, (hf 16).trans a.f16⟩
theorem rosC_new (v : Int) (P G : Nat → Int) (T : TypeId) (w : World) : RosC (w.alloc (Obj.cells #[.int .i64 v, .int .i64 (P 0), .int .i64 (G 0), .int .i64 (P 1), .int .i64 (G 1), .int .i64 (P 2), .int .i64 (G 2), .int .i64 (P 3), .int .i64 (G 3), .int .i64 (P 4), .int .i64 (G 4), .int .i64 (P 5), .int .i64 (G 5), .int .i64 (P 6), .int .i64 (G 6), .int .i64 (P 7), .int .i64 (G 7)] T)) w.heap.size v P G := by
  constructor
  all_goals first | (rw [World.cell?_alloc_new]; rfl) | rw [World.frozen?_alloc_new]
theorem RosC.lt {w : World} {b : Nat} {v : Int} {P G : Nat → Int} (a : RosC w b v P G) : b < w.heap.size := block_of_cell a.c0
def seatR (v : Int) (P G : Nat → Int) (slot : Int) (had : Bool) : Bool := mayR v P G && decide (v < 1073741824) && decide (0 ≤ slot) && decide (slot < 8) && (decide (0 ≤ P slot.toNat) == had)
theorem seat_any (v slot : Int) (had : Bool) (P G : Nat → Int) (w : World) :
    Calls Try.prog 17 #[.agg #[.int .i64 v, .int .i64 (P 0), .int .i64 (G 0), .int .i64 (P 1), .int .i64 (G 1), .int .i64 (P 2), .int .i64 (G 2), .int .i64 (P 3), .int .i64 (G 3), .int .i64 (P 4), .int .i64 (G 4), .int .i64 (P 5), .int .i64 (G 5), .int .i64 (P 6), .int .i64 (G 6), .int .i64 (P 7), .int .i64 (G 7)], .int .i64 slot, .bool had] w fun e w' => e = .returned (.bool (seatR v P G slot had)) ∧ Below w.heap.size w w' := by
  unfold seatR
  go_enter Try.func17, Try.ntmps17
  go_wp2_with fail
  have hr := rosC_new v P G 27 w
  have hs := seats_new v P G 27 w
  have hsz : (w.alloc (Obj.cells #[.int .i64 v, .int .i64 (P 0), .int .i64 (G 0), .int .i64 (P 1), .int .i64 (G 1), .int .i64 (P 2), .int .i64 (G 2), .int .i64 (P 3), .int .i64 (G 3), .int .i64 (P 4), .int .i64 (G 4), .int .i64 (P 5), .int .i64 (G 5), .int .i64 (P 6), .int .i64 (G 6), .int .i64 (P 7), .int .i64 (G 7)] 27)).heap.size = w.heap.size + 1 := by simp
  have hbel := (Below.refl w.heap.size w).alloc (Nat.le_refl _) (Obj.cells #[.int .i64 v, .int .i64 (P 0), .int .i64 (G 0), .int .i64 (P 1), .int .i64 (G 1), .int .i64 (P 2), .int .i64 (G 2), .int .i64 (P 3), .int .i64 (G 3), .int .i64 (P 4), .int .i64 (G 4), .int .i64 (P 5), .int .i64 (G 5), .int .i64 (P 6), .int .i64 (G 6), .int .i64 (P 7), .int .i64 (G 7)] 27)
  generalize w.alloc (Obj.cells #[.int .i64 v, .int .i64 (P 0), .int .i64 (G 0), .int .i64 (P 1), .int .i64 (G 1), .int .i64 (P 2), .int .i64 (G 2), .int .i64 (P 3), .int .i64 (G 3), .int .i64 (P 4), .int .i64 (G 4), .int .i64 (P 5), .int .i64 (G 5), .int .i64 (P 6), .int .i64 (G 6), .int .i64 (P 7), .int .i64 (G 7)] 27) = w1 at hr hs hsz hbel ⊢
  refine (may_any v P G _).mono ?_
  rintro e w2 ⟨rfl, hb2⟩
  have c0 := (hr.block (hb2.block w.heap.size (by omega))).c0
  have hs2 := hs.block (hb2.block w.heap.size (by omega))
  have HB := Lib.hid (hbel.trans (hb2.mono (by omega)))
  have HS := Lib.hid hs2
  clear hr hs hb2 hbel hs2
  cases hm : mayR v P G with
  | false =>
    have HM := Lib.hid hm
    clear hm
    go_wp2_with fail
    go_ret
    exact ⟨by rw [HM.out]; rfl, HB.out⟩
  | true =>
    have HM := Lib.hid hm
    clear hm
    by_cases h1 : v < 1073741824
    · have d1 := decide_eq_true h1
      by_cases h2 : 0 ≤ slot
      · by_cases h3 : slot < 8
        · obtain ⟨n, rfl⟩ : ∃ n : Nat, slot = n := ⟨slot.toNat, by omega⟩
          have hn : n < 8 := by omega
          have cp := HS.out.p n hn
          have d2 := decide_eq_true h2
          have d3 := decide_eq_true h3
          generalize hp : P n = p at *
          have HPn := Lib.hid hp
          clear hp
          go_wp2_with fail
          go_ret
          exact ⟨by rw [HM.out, d1, d2, d3, Int.toNat_natCast, HPn.out]; simp, HB.out⟩
        · have d3 := decide_eq_false h3
          go_wp2_with fail
          go_ret
          exact ⟨by simp [d3], HB.out⟩
      · have d2 := decide_eq_false h2
        go_wp2_with fail
        go_ret
        exact ⟨by simp [d2], HB.out⟩
    · have d1 := decide_eq_false h1
      go_wp2_with fail
      go_ret
      exact ⟨by simp [d1], HB.out⟩
end Go.Proofs.Ythjabcogbjdkiaa
