/-
  Roster: New, Mask, Free.
-/
import Derived.Test.YthjabcogbjdkiaaF
namespace Go.Proofs.Ythjabcogbjdkiaa
set_option linter.unusedVariables false
open Go.ChangeShapes Go.WideShapes Go.ChangeAt Go.RowKit

def seatsL (P G : Nat → Int) : List Value := (List.range 16).map fun k => .int .i64 (if k % 2 = 0 then P (k / 2) else G (k / 2))
theorem seatsL_len (P G : Nat → Int) : (seatsL P G).length = 16 := by unfold seatsL; rw [List.length_map, List.length_range]
theorem seatsL_p (P G : Nat → Int) (n : Nat) (hn : n < 8) : (seatsL P G)[n * 2]? = some (.int .i64 (P n)) := by
  unfold seatsL; rw [List.getElem?_map, List.getElem?_range (by omega)]
  simp only [Option.map_some]; rw [if_pos (by omega), show n * 2 / 2 = n by omega]
theorem seatsL_g (P G : Nat → Int) (n : Nat) (hn : n < 8) : (seatsL P G)[n * 2 + 1]? = some (.int .i64 (G n)) := by
  unfold seatsL; rw [List.getElem?_map, List.getElem?_range (by omega)]
  simp only [Option.map_some]; rw [if_neg (by omega), show (n * 2 + 1) / 2 = n by omega]
theorem RosAt.seatsRange {w : World} {b : Nat} {v : Int} {P G : Nat → Int} (a : RosAt w b v P G) : w.rangeAt b 1 (seatsL P G) := by
  intro j x hx
  have hj : j < 16 := by have := (List.getElem?_eq_some_iff.1 hx).1; rw [seatsL_len] at this; exact this
  rw [a.cell (1 + j) (by omega), ← hx]
  unfold seatsL; rw [List.getElem?_map, List.getElem?_range hj]
  simp only [Option.map_some]
  unfold rosF
  rw [if_neg (by omega)]
  by_cases h : j % 2 = 0
  · rw [if_pos h, if_pos (by omega), show (1 + j) / 2 = j / 2 by omega]
  · rw [if_neg h, if_neg (by omega), show (1 + j) / 2 - 1 = j / 2 by omega]
theorem size_25 (P G : Nat → Int) : (Try.prog.info? 25).map (·.size) = some (seatsL P G).length := by rw [seatsL_len]; kernel_rfl
theorem run_seat (P G : Nat → Int) (n : Nat) (hn : n < 8) (w : World) : (Instr.index 25 (.agg (seatsL P G).toArray) (.int .i64 (n : Int))).run Try.prog w = .ok (.agg #[.int .i64 (P n), .int .i64 (G n)]) w := by
  have e : (seatsL P G).toArray = #[.int .i64 (P 0), .int .i64 (G 0), .int .i64 (P 1), .int .i64 (G 1), .int .i64 (P 2), .int .i64 (G 2), .int .i64 (P 3), .int .i64 (G 3), .int .i64 (P 4), .int .i64 (G 4), .int .i64 (P 5), .int .i64 (G 5), .int .i64 (P 6), .int .i64 (G 6), .int .i64 (P 7), .int .i64 (G 7)] := rfl
  rw [e]
  rcases (by omega : n = 0 ∨ n = 1 ∨ n = 2 ∨ n = 3 ∨ n = 4 ∨ n = 5 ∨ n = 6 ∨ n = 7) with rfl | rfl | rfl | rfl | rfl | rfl | rfl | rfl
  all_goals simp [Instr.index, run_underlying Try.underlying25, asIntOf, go_sem]
/-- Which of the first n slots have a peer. -/
def maskN (P : Nat → Int) : Nat → Nat
  | 0 => 0
  | n + 1 => if 0 ≤ P n then maskN P n ||| 2 ^ n else maskN P n
theorem maskN_next (P : Nat → Int) (n : Nat) : maskN P (n + 1) = if 0 ≤ P n then maskN P n ||| 2 ^ n else maskN P n := rfl
theorem maskN_lt (P : Nat → Int) (n : Nat) (hn : n ≤ 8) : maskN P n < 2 ^ 8 := by
  induction n with
  | zero => show (0 : Nat) < _; decide
  | succ n ih =>
    rw [maskN_next]
    have := ih (by omega)
    split
    · exact Nat.or_lt_two_pow this (Nat.pow_lt_pow_right (by omega) (by omega))
    · exact this
theorem wrap_pow (n : Nat) (hn : n < 8) : wrap64 (2 ^ n) = 2 ^ n := by
  rcases (by omega : n = 0 ∨ n = 1 ∨ n = 2 ∨ n = 3 ∨ n = 4 ∨ n = 5 ∨ n = 6 ∨ n = 7) with rfl | rfl | rfl | rfl | rfl | rfl | rfl | rfl <;> decide +kernel
def maskR (v : Int) (P G : Nat → Int) : Nat := if mayR v P G then maskN P 8 else 0
set_option maxHeartbeats 2000000 in
theorem mask_any (v : Int) (P G : Nat → Int) (w : World) :
    Calls Try.prog 13 #[rosV v P G] w fun e w' => e = .returned (.int .i64 (maskR v P G)) ∧ Below w.heap.size w w' := by
  unfold rosV
  go_enter Try.func13, Try.ntmps13
  go_wp2_with (refine wpList_load_g (by rfl) 27 _ rfl w.heap.size 0 rfl (rosL v P G) _ (rosAt_new v P G 27 w).range Try.underlying27 rfl (size_27 v P G) ?_)
  have hr := rosAt_new v P G 27 w
  have hb1 := (Below.refl w.heap.size w).alloc (Nat.le_refl _) (Obj.cells (rosL v P G).toArray 27)
  have hz1 : (w.alloc (Obj.cells (rosL v P G).toArray 27)).heap.size = w.heap.size + 1 := by simp
  generalize w.alloc (Obj.cells (rosL v P G).toArray 27) = w1 at hr hz1 hb1 ⊢
  refine (may_v v P G _).mono ?_
  rintro e w2 ⟨rfl, hb2⟩
  have HB := Lib.hid (hb1.trans (hb2.mono (by omega)))
  have HR := Lib.hid (hr.block (hb2.block _ hr.lt))
  have hz2 : w.heap.size + 1 ≤ w2.heap.size := by have := hb2.size; omega
  clear hr hb1 hb2 hz1
  generalize hb0 : w.heap.size = b at *
  have HB0 := Lib.hid hb0
  clear hb0
  cases hm : mayR v P G with
  | false =>
    have HM := Lib.hid hm
    clear hm
    go_wp2_with fail
    go_ret
    refine ⟨?_, by rw [HB0.out]; exact HB.out⟩
    unfold maskR; rw [HM.out]; rfl
  | true =>
    have HM := Lib.hid hm
    clear hm
    go_wp2_with (refine wpList_load_mid rfl 25 _ rfl b 1 rfl _ _ HR.out.seatsRange Try.underlying25 rfl (size_25 _ _) ?_)
    go_loopw [3, 11] (fun m i wr => ∃ n : Nat, n ≤ 8 ∧ i = .int .i64 n ∧ m = .int .i64 (maskN P n : Nat) ∧ Below b w wr) (fun _ i _ => 8 - (intOf i).toNat)
    case atStart => exact ⟨0, by omega, rfl, rfl, HB.out⟩
    case round =>
      obtain ⟨n, hn, rfl, rfl, hB⟩ := hrel
      have HN := Lib.hid (maskN_next P n)
      have hbw : b ≤ wr.heap.size := by have := hB.size; have := HB0.out; omega
      have hlm := maskN_lt P n hn
      by_cases hlt : n < 8
      · have hix := run_seat P G n hlt
        have HBa := fun g => Lib.hid (hB.alloc hbw (Obj.cells #[.int .i64 (P n), .int .i64 g] 24))
        have hor := bit_or (maskN P n) n (by omega) (by omega)
        have e2 : ((2 ^ n : Nat) : Int) = 2 ^ n := by push_cast; rfl
        rw [e2] at hor
        have hwp := wrap_pow n hlt
        generalize hM0 : maskN P n = M at *
        have HM0 := Lib.hid hM0
        clear hM0
        by_cases hp : 0 ≤ P n
        · rw [if_pos hp] at HN
          have dp := decide_eq_true hp
          generalize P n = p at *
          generalize G n = g at *
          go_wp2_with fail
          all_goals first | exact ⟨⟨n + 1, by omega, by go_num, by rw [HN.out], (HBa g).out⟩, by simp [intOf]; omega⟩ | exact ⟨n + 1, by omega, by go_num, by rw [HN.out], (HBa g).out⟩ | (simp [intOf]; omega) | go_roundw
          all_goals first | exact ⟨n + 1, by omega, by go_num, by rw [HN.out], (HBa g).out⟩ | (simp [intOf]; omega)
        · rw [if_neg hp] at HN
          have dp := decide_eq_false hp
          generalize P n = p at *
          generalize G n = g at *
          go_wp2_with fail
          all_goals first | exact ⟨⟨n + 1, by omega, by go_num, by rw [HN.out], (HBa g).out⟩, by simp [intOf]; omega⟩ | exact ⟨n + 1, by omega, by go_num, by rw [HN.out], (HBa g).out⟩ | (simp [intOf]; omega) | go_roundw
          all_goals first | exact ⟨n + 1, by omega, by go_num, by rw [HN.out], (HBa g).out⟩ | (simp [intOf]; omega)
      · obtain rfl : n = 8 := by omega
        go_wp2_with fail
        go_ret
        refine ⟨?_, by rw [HB0.out]; exact hB⟩
        unfold maskR; rw [HM.out]; rfl

def FreeN (P G : Nat → Int) (n : Nat) (r : Int) : Prop :=
  (r = -1 ∧ ∀ m, m < n → P m = -1 → 60000 ≤ G m) ∨ ∃ q : Nat, q < n ∧ r = q ∧ P q = -1 ∧ G q < 60000 ∧ (∀ m, m < n → P m = -1 → G m < 60000 → G q ≤ G m) ∧ (∀ m, m < q → P m = -1 → G m < 60000 → G q < G m)
def FreeSpec (v : Int) (P G : Nat → Int) (r : Int) : Prop := (mayR v P G = false ∧ r = -1) ∨ (mayR v P G = true ∧ FreeN P G 8 r)
theorem freeN_no {P G : Nat → Int} {n : Nat} {r : Int} (h : FreeN P G n r) (hn : P n = -1 → 60000 ≤ G n ∨ ∃ q : Nat, r = q ∧ G q ≤ G n) : FreeN P G (n + 1) r := by
  rcases h with ⟨h1, h2⟩ | ⟨q, h1, h2, h3, h4, h5, h6⟩
  · refine Or.inl ⟨h1, fun m hm hp => ?_⟩
    by_cases e : m = n
    · subst e
      rcases hn hp with h | ⟨q, h, -⟩
      · exact h
      · omega
    · exact h2 m (by omega) hp
  · refine Or.inr ⟨q, by omega, h2, h3, h4, fun m hm hp hg => ?_, h6⟩
    by_cases e : m = n
    · subst e
      rcases hn hp with h | ⟨q', h, h'⟩
      · omega
      · have : q' = q := by omega
        subst this; exact h'
    · exact h5 m (by omega) hp hg
theorem freeN_take {P G : Nat → Int} {n : Nat} {r : Int} (h : FreeN P G n r) (hp : P n = -1) (hg : G n < 60000) (hq : r = -1 ∨ ∃ q : Nat, r = q ∧ G n < G q) : FreeN P G (n + 1) n := by
  refine Or.inr ⟨n, by omega, rfl, hp, hg, ?_, ?_⟩
  · intro m hm hpm hgm
    by_cases e : m = n
    · subst e; omega
    · rcases h with ⟨h1, h2⟩ | ⟨q, h1, h2, h3, h4, h5, h6⟩
      · have := h2 m (by omega) hpm; omega
      · rcases hq with hq | ⟨q', hq, hq'⟩
        · omega
        · have : q' = q := by omega
          subst this
          have := h5 m (by omega) hpm hgm; omega
  · intro m hm hpm hgm
    rcases h with ⟨h1, h2⟩ | ⟨q, h1, h2, h3, h4, h5, h6⟩
    · have := h2 m (by omega) hpm; omega
    · rcases hq with hq | ⟨q', hq, hq'⟩
      · omega
      · have : q' = q := by omega
        subst this
        have := h5 m (by omega) hpm hgm; omega
set_option maxHeartbeats 2000000 in
theorem free_any (v : Int) (P G : Nat → Int) (w : World) :
    Calls Try.prog 8 #[rosV v P G] w fun e w' => (∃ r : Int, e = .returned (.int .i64 r) ∧ FreeSpec v P G r) ∧ Below w.heap.size w w' := by
  unfold rosV
  go_enter Try.func8, Try.ntmps8
  go_wp2_with (refine wpList_load_g (by rfl) 27 _ rfl w.heap.size 0 rfl (rosL v P G) _ (rosAt_new v P G 27 w).range Try.underlying27 rfl (size_27 v P G) ?_)
  have hr := rosAt_new v P G 27 w
  have hb1 := (Below.refl w.heap.size w).alloc (Nat.le_refl _) (Obj.cells (rosL v P G).toArray 27)
  have hz1 : (w.alloc (Obj.cells (rosL v P G).toArray 27)).heap.size = w.heap.size + 1 := by simp
  generalize w.alloc (Obj.cells (rosL v P G).toArray 27) = w1 at hr hz1 hb1 ⊢
  refine (may_v v P G _).mono ?_
  rintro e w2 ⟨rfl, hb2⟩
  have HB := Lib.hid (hb1.trans (hb2.mono (by omega)))
  have HR := Lib.hid (hr.block (hb2.block _ hr.lt))
  have hz2 : w.heap.size + 1 ≤ w2.heap.size := by have := hb2.size; omega
  clear hr hb1 hb2 hz1
  generalize hb0 : w.heap.size = b at *
  have HB0 := Lib.hid hb0
  clear hb0
  cases hm : mayR v P G with
  | false =>
    have HM := Lib.hid hm
    clear hm
    go_wp2_with fail
    go_ret
    exact ⟨⟨-1, rfl, Or.inl ⟨HM.out, rfl⟩⟩, by rw [HB0.out]; exact HB.out⟩
  | true =>
    have HM := Lib.hid hm
    clear hm
    go_wp2_with (refine wpList_load_mid rfl 25 _ rfl b 1 rfl _ _ HR.out.seatsRange Try.underlying25 rfl (size_25 _ _) ?_)
    go_loopw [3, 11] (fun m i wr => ∃ n : Nat, n ≤ 8 ∧ i = .int .i64 n ∧ (∃ r : Int, m = .int .i64 r ∧ FreeN P G n r) ∧ RosAt wr b v P G ∧ Below b w wr) (fun _ i _ => 8 - (intOf i).toNat)
    case atStart => exact ⟨0, by omega, rfl, ⟨-1, rfl, Or.inl ⟨rfl, fun m hm => by omega⟩⟩, HR.out, HB.out⟩
    case round =>
      obtain ⟨n, hn, rfl, ⟨r, rfl, hfr⟩, hra, hB⟩ := hrel
      have hbw := hra.lt
      have HFR := Lib.hid hfr
      by_cases hlt : n < 8
      · have hix := run_seat P G n hlt
        go_wp2_with fail
        have hB2 := hB.alloc (by omega) (Obj.cells #[.int .i64 (P n), .int .i64 (G n)] 24)
        have hra2 := hra.block (Below.heap_alloc wr (Obj.cells #[.int .i64 (P n), .int .i64 (G n)] 24) b hbw)
        have o0 : (wr.alloc (Obj.cells #[.int .i64 (P n), .int .i64 (G n)] 24)).cell? ⟨wr.heap.size, 0, none⟩ = some (.int .i64 (P n)) := by rw [World.cell?_alloc_new]; rfl
        have o1 : (wr.alloc (Obj.cells #[.int .i64 (P n), .int .i64 (G n)] 24)).cell? ⟨wr.heap.size, 1, none⟩ = some (.int .i64 (G n)) := by rw [World.cell?_alloc_new]; rfl
        generalize wr.alloc (Obj.cells #[.int .i64 (P n), .int .i64 (G n)] 24) = w5 at *
        generalize wr.heap.size = t at *
        have HRA := Lib.hid hra2
        have HB5 := Lib.hid hB2
        clear hra hB hra2 hB2 hix hfr
        have hq : r = -1 ∨ ∃ q : Nat, q < 8 ∧ r = q := by
          rcases HFR.out with ⟨h, -⟩ | ⟨q, h1, h2, -⟩
          · exact Or.inl h
          · exact Or.inr ⟨q, by omega, h2⟩
        by_cases h1 : P n = -1
        · rw [h1] at o0
          by_cases h2 : G n < 60000
          · have d2 := decide_eq_true h2
            rcases hq with rfl | ⟨q, hq8, rfl⟩
            · have HN := Lib.hid (freeN_take HFR.out h1 h2 (Or.inl rfl))
              clear h1 h2 HFR
              generalize G n = g at *
              go_region
              all_goals go_wp2_with fail
              all_goals first | exact ⟨⟨n + 1, by omega, by go_num, ⟨_, rfl, HN.out⟩, HRA.out.block rfl, HB5.out.drew⟩, by simp [intOf]; omega⟩ | exact ⟨n + 1, by omega, by go_num, ⟨_, rfl, HN.out⟩, HRA.out.block rfl, HB5.out.drew⟩ | (simp [intOf]; omega) | go_roundw
              all_goals first | exact ⟨n + 1, by omega, by go_num, ⟨_, rfl, HN.out⟩, HRA.out.block rfl, HB5.out.drew⟩ | (simp [intOf]; omega)
            · have cq := HRA.out.g q hq8
              have hqi : ¬ (q : Int) < 0 := by omega
              by_cases h3 : G n < G q
              · have HN := Lib.hid (freeN_take HFR.out h1 h2 (Or.inr ⟨q, rfl, h3⟩))
                have d3 := decide_eq_true h3
                clear h1 h2 h3 HFR
                generalize G n = g at *
                generalize G q = g2 at *
                go_region
                all_goals go_wp2_with fail
                all_goals first | exact ⟨⟨n + 1, by omega, by go_num, ⟨_, rfl, HN.out⟩, HRA.out.block rfl, HB5.out.drew⟩, by simp [intOf]; omega⟩ | exact ⟨n + 1, by omega, by go_num, ⟨_, rfl, HN.out⟩, HRA.out.block rfl, HB5.out.drew⟩ | (simp [intOf]; omega) | go_roundw
                all_goals first | exact ⟨n + 1, by omega, by go_num, ⟨_, rfl, HN.out⟩, HRA.out.block rfl, HB5.out.drew⟩ | (simp [intOf]; omega)
              · have HN := Lib.hid (freeN_no HFR.out (fun _ => Or.inr ⟨q, rfl, by omega⟩))
                have d3 := decide_eq_false h3
                clear h1 h2 h3 HFR
                generalize G n = g at *
                generalize G q = g2 at *
                go_region
                all_goals go_wp2_with fail
                all_goals first | exact ⟨⟨n + 1, by omega, by go_num, ⟨_, rfl, HN.out⟩, HRA.out.block rfl, HB5.out.drew⟩, by simp [intOf]; omega⟩ | exact ⟨n + 1, by omega, by go_num, ⟨_, rfl, HN.out⟩, HRA.out.block rfl, HB5.out.drew⟩ | (simp [intOf]; omega) | go_roundw
                all_goals first | exact ⟨n + 1, by omega, by go_num, ⟨_, rfl, HN.out⟩, HRA.out.block rfl, HB5.out.drew⟩ | (simp [intOf]; omega)
          · have HN := Lib.hid (freeN_no HFR.out (fun _ => Or.inl (by omega)))
            have d2 := decide_eq_false h2
            clear h1 h2 HFR hq
            generalize G n = g at *
            go_region
            all_goals go_wp2_with fail
            all_goals first | exact ⟨⟨n + 1, by omega, by go_num, ⟨_, rfl, HN.out⟩, HRA.out.block rfl, HB5.out.drew⟩, by simp [intOf]; omega⟩ | exact ⟨n + 1, by omega, by go_num, ⟨_, rfl, HN.out⟩, HRA.out.block rfl, HB5.out.drew⟩ | (simp [intOf]; omega) | go_roundw
            all_goals first | exact ⟨n + 1, by omega, by go_num, ⟨_, rfl, HN.out⟩, HRA.out.block rfl, HB5.out.drew⟩ | (simp [intOf]; omega)
        · have HN := Lib.hid (freeN_no HFR.out (fun h => absurd h h1))
          have d1 : (P n == -1) = false := by rw [beq_eq_false_iff_ne]; exact h1
          clear h1 HFR hq
          generalize G n = g at *
          generalize P n = p at *
          go_region
          all_goals go_wp2_with fail
          all_goals first | exact ⟨⟨n + 1, by omega, by go_num, ⟨_, rfl, HN.out⟩, HRA.out.block rfl, HB5.out.drew⟩, by simp [intOf]; omega⟩ | exact ⟨n + 1, by omega, by go_num, ⟨_, rfl, HN.out⟩, HRA.out.block rfl, HB5.out.drew⟩ | (simp [intOf]; omega) | go_roundw
          all_goals first | exact ⟨n + 1, by omega, by go_num, ⟨_, rfl, HN.out⟩, HRA.out.block rfl, HB5.out.drew⟩ | (simp [intOf]; omega)
      · obtain rfl : n = 8 := by omega
        go_wp2_with fail
        go_ret
        exact ⟨⟨r, rfl, Or.inr ⟨HM.out, HFR.out⟩⟩, by rw [HB0.out]; exact hB⟩
end Go.Proofs.Ythjabcogbjdkiaa
