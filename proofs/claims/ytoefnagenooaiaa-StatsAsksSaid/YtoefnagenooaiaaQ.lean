/-
  Stats: the Go text of StatsBounds returns true for every input.
-/
import Derived.Test.YtoefnagenooaiaaO
namespace Go.Proofs.Ytoefnagenooaiaa
set_option linter.unusedVariables false
open Go.ChangeShapes Go.WideShapes Go.ChangeAt Go.RowKit
attribute [local go_sem] run_neg_f64 frombits_run bits_run run_store_float


theorem grow_self (w : World) : Sort.grow (redrawn w w.drawn) #[] = w := by
  cases w; simp [Sort.grow, redrawn]
theorem regrown0 {f : Nat} {a : Array Value} {r : Value} {w : World} (h : Calls Try.prog f a w fun e w' => e = .returned r ∧ Below w.heap.size w w') :
    Calls Try.prog f a w fun e w' => e = .returned r ∧ ∃ p : Regrown, w' = Sort.grow (redrawn w p.d) p.os := by
  have := Calls.regrown_of (w := w) (d := w.drawn) (os := #[]) (by rw [grow_self]; exact h)
  rw [grow_self] at this
  exact this
def BSt (w wr : World) (b k lo hi : Nat) : Prop :=
  (k = 0 ∧ lo = 9218868437227405312 ∧ hi = 18442240474082181120 ∧ Tr w wr b 0 0 0 0 0) ∨
  (1 ≤ k ∧ lo < 9218868437227405312 ∧ hi < 9218868437227405312 ∧ ∃ m s, m < 9218868437227405312 ∧ s < 9218868437227405312 ∧ Tr w wr b k m s lo hi)
def maxI (k hi g : Nat) : Nat := if k = 0 then g else max hi g
theorem b_add {f g : Nat} (G : Good f g) {w wr : World} {b k lo hi : Nat} (hk : k < 200) (h : BSt w wr b k lo hi) :
    Calls Try.prog 11 #[.pointer (some ⟨b, 0, none⟩), .float .f64 f] wr fun e w' => e = .returned (.bool true) ∧ BSt w w' b (k + 1) (min lo g) (maxI k hi g) := by
  have hg := G.fin
  rcases h with ⟨rfl, rfl, rfl, T⟩ | ⟨h1, hlo, hhi, m, s, hm, hs, T⟩
  · refine (add_good_first G b _ _ _ _ _ T.line).mono ?_
    rintro e w' ⟨rfl, hL, hO⟩
    have e1 : min 9218868437227405312 g = g := by omega
    rw [e1]
    exact ⟨rfl, Or.inr ⟨by omega, hg, by unfold maxI; rw [if_pos rfl]; exact hg, g, 0, hg, by decide, by unfold maxI; rw [if_pos rfl]; exact T.only hL hO⟩⟩
  · obtain ⟨d, p, m', d2, p2, s', s1, s2⟩ := good_steps hm hs hg
    refine (add_good_more G b k m s lo hi d p m' d2 p2 s' s1 s2 hlo hhi (by omega) (by omega) _ T.line).mono ?_
    rintro e w' ⟨rfl, hL, hO⟩
    refine ⟨rfl, Or.inr ⟨by omega, by omega, by unfold maxI; rw [if_neg (by omega)]; omega, m', s', s1.fin, s2.fin, ?_⟩⟩
    unfold maxI
    rw [if_neg (by omega)]
    exact T.only hL hO
theorem b_min {w wr : World} {b k lo hi g : Nat} (h : BSt w wr b k lo hi) (hg : g < 9218868437227405312) (W : World) :
    Calls Try.prog 23 #[.float .f64 lo, .float .f64 g] W fun e w' => e = .returned (.float .f64 (min lo g)) ∧ W = w' := by
  rcases h with ⟨rfl, rfl, rfl, T⟩ | ⟨h1, hlo, hhi, _⟩
  · exact min_any _ _ _ (pick_min (by omega) hg) W
  · exact min_any _ _ _ (pick_min (by omega) hg) W
theorem b_max {w wr : World} {b k lo hi g : Nat} (h : BSt w wr b k lo hi) (hg : g < 9218868437227405312) (W : World) :
    Calls Try.prog 25 #[.float .f64 hi, .float .f64 g] W fun e w' => e = .returned (.float .f64 (maxI k hi g)) ∧ W = w' := by
  rcases h with ⟨rfl, rfl, rfl, T⟩ | ⟨h1, hlo, hhi, _⟩
  · unfold maxI; rw [if_pos rfl]; exact max_any _ _ _ (pick_max_inf hg) W
  · unfold maxI; rw [if_neg (by omega)]; exact max_any _ _ _ (pick_max hhi hg) W
theorem BSt.bel {w wr : World} {b k lo hi : Nat} (h : BSt w wr b k lo hi) : Below b w wr := by
  rcases h with ⟨_, _, _, T⟩ | ⟨_, _, _, _, _, _, _, T⟩ <;> exact T.bel
theorem BSt.line {w wr : World} {b k lo hi : Nat} (h : BSt w wr b k lo hi) : ∃ m s l hh, LineAt wr b k m s l hh := by
  rcases h with ⟨rfl, _, _, T⟩ | ⟨_, _, _, _, _, _, _, T⟩
  · exact ⟨_, _, _, _, T.line⟩
  · exact ⟨_, _, _, _, T.line⟩

set_option maxHeartbeats 4000000 in
theorem law_StatsBounds (v0 : Value) (w : World) (w0 : IsFRow w v0) :
    Calls Try.prog 7 #[v0] w fun e w' => e = .returned (.bool true) ∧ Below w.heap.size w w' := by
  obtain ⟨a0, len, cap, rfl, hle, hel⟩ := w0
  unfold maxLen at hle
  have Hel := Lib.hid hel
  clear hel
  by_cases hlen : 100 < len
  · go_enter Try.func7, Try.ntmps7
    go_wp2_with fail
    refine (told_law _).mono ?_
    rintro e w1 ⟨rfl, hB⟩
    go_wp2_with fail
    go_ret
    exact ⟨rfl, hB⟩
  · go_enter Try.func7, Try.ntmps7
    go_wp2_with fail
    refine (new_any _).mono ?_
    rintro e w1 ⟨rfl, hL, hB, hz⟩
    obtain ⟨b, hb⟩ : ∃ b, w.heap.size = b := ⟨_, rfl⟩
    rw [hb] at hL hB hz ⊢
    have T : BSt w w1 b 0 9218868437227405312 18442240474082181120 := Or.inl ⟨rfl, rfl, rfl, hL, hB⟩
    have HBB := Lib.hid hb
    clear hL hB hz hb
    go_wp2_with fail
    refine (inf_pos _).mono ?_
    rintro e w' ⟨rfl, rfl⟩
    go_wp2_with fail
    refine (inf_neg _).mono ?_
    rintro e w' ⟨rfl, rfl⟩
    go_wp2_with fail
    go_loopw [4, 5, 6, 7] (fun n lo hi i wr => ∃ j k l h : Nat, j ≤ len ∧ k ≤ j ∧ n = .int .i64 k ∧ lo = .float .f64 l ∧ hi = .float .f64 h ∧ i = .int .i64 j ∧ BSt w wr b k l h) (fun n lo hi i _ => len - (intOf i).toNat)
    case atStart => exact ⟨0, 0, _, _, by omega, by omega, rfl, rfl, rfl, rfl, T⟩
    case round =>
      clear T
      obtain ⟨j, k, lo, hi, hj, hkj, rfl, rfl, rfl, rfl, T⟩ := hrel
      by_cases hlt : j < len
      · obtain ⟨c, o, z, rfl, hc, hcell⟩ := Hel.out (by omega)
        obtain ⟨hcw, hzl⟩ := hcell j hlt
        have hc1 : wr.cell? ⟨c, o + j, none⟩ = some (.float .f64 (z j)) := by
          rw [← hcw]; exact World.cell?_of_block (w := w) (T.bel.block c (by have := HBB.out; omega))
        generalize z j = f at hc1 hzl
        clear hcell hcw
        have HT := Lib.hid T
        rcases classify hzl with G | G
        · have ge := G.ge
          have le := G.le
          have HG := Lib.hid G
          clear G T hzl
          go_wp2_with fail
          refine (b_add HG.out (by omega) HT.out).mono ?_
          rintro e x2 ⟨rfl, T2⟩
          have HT2 := Lib.hid T2
          clear T2
          go_wp2_with fail
          refine (abs_any _ HG.out.lt _).mono ?_
          rintro e w' ⟨rfl, rfl⟩
          rw [HG.out.rg]
          go_wp2_with fail
          refine (b_min HT.out HG.out.fin _).mono ?_
          rintro e w' ⟨rfl, rfl⟩
          go_wp2_with fail
          refine (abs_any _ HG.out.lt _).mono ?_
          rintro e w' ⟨rfl, rfl⟩
          rw [HG.out.rg]
          go_wp2_with fail
          refine (b_max HT.out HG.out.fin _).mono ?_
          rintro e w' ⟨rfl, rfl⟩
          go_wp2_with fail
          go_roundw
          case rel => exact ⟨j + 1, k + 1, _, _, by omega, by omega, by go_num, rfl, rfl, by go_num, HT2.out⟩
          case measure => simp [intOf]; omega
        · have HG := Lib.hid G
          rcases G.ok with ok | ok
          · clear G T hzl
            go_wp2_with fail
            refine (HG.out.prog _ _).mono ?_
            rintro e w' ⟨rfl, rfl⟩
            go_wp2_with fail
            go_roundw
            case rel => exact ⟨j + 1, k, _, _, by omega, by omega, rfl, rfl, rfl, by go_num, HT.out⟩
            case measure => simp [intOf]; omega
          · clear G T hzl
            cases ok2 : (fo f 0 == some .gt || fo f 0 == some .eq) with
            | true =>
              go_wp2_with fail
              refine (HG.out.prog _ _).mono ?_
              rintro e w' ⟨rfl, rfl⟩
              go_wp2_with fail
              go_roundw
              case rel => exact ⟨j + 1, k, _, _, by omega, by omega, rfl, rfl, rfl, by go_num, HT.out⟩
              case measure => simp [intOf]; omega
            | false =>
              go_wp2_with fail
              refine (HG.out.prog _ _).mono ?_
              rintro e w' ⟨rfl, rfl⟩
              go_wp2_with fail
              go_roundw
              case rel => exact ⟨j + 1, k, _, _, by omega, by omega, rfl, rfl, rfl, by go_num, HT.out⟩
              case measure => simp [intOf]; omega
      · obtain rfl : j = len := by omega
        obtain ⟨m0, s0, l0, h0, hL0⟩ := T.line
        have HL0 := Lib.hid hL0
        have HB2 := Lib.hid T.bel
        have hbl := block_of_cell hL0.c0
        have HBL := Lib.hid hbl
        have HT := Lib.hid T
        clear hL0 T hbl
        go_wp2_with fail
        refine (count_any b _ _ _ _ _ _ HL0.out).mono ?_
        rintro e w' ⟨rfl, rfl⟩
        rcases HT.out with ⟨rfl, rfl, rfl, T⟩ | ⟨k1, hlo, hhi, m, s, hm, hs, T⟩
        · have LA : ∀ d os, LineAt (Sort.grow (redrawn wr d) os) b 0 0 0 0 0 := fun d os => T.line.below (below_regrown wr d os) HBL.out
          clear T HT HL0
          have nn : (fo 9221120237041090561 9221120237041090561 != some .eq) = true := by decide +kernel
          have dT : ∀ d os, Calls Try.prog 8 #[] (Sort.grow (redrawn wr d) os) fun e w'' => e = .returned (.bool true) ∧ ∃ p : Regrown, w'' = Sort.grow (redrawn wr p.d) p.os := fun d os => Calls.regrown_of (told_law _)
          have dMe : ∀ d os, Calls Try.prog 15 #[.pointer (some ⟨b, 0, none⟩)] (Sort.grow (redrawn wr d) os) fun e w'' => e = .returned (.float .f64 9221120237041090561) ∧ ∃ p : Regrown, w'' = Sort.grow (redrawn wr p.d) p.os := fun d os => Calls.regrown_of (mean_0 b _ _ _ _ _ (LA d os))
          have dSp : ∀ d os, Calls Try.prog 16 #[.pointer (some ⟨b, 0, none⟩)] (Sort.grow (redrawn wr d) os) fun e w'' => e = .returned (.float .f64 9221120237041090561) ∧ ∃ p : Regrown, w'' = Sort.grow (redrawn wr p.d) p.os := fun d os => Calls.regrown_of (spread_0 b _ _ _ _ _ (LA d os))
          have dLe : ∀ d os, Calls Try.prog 17 #[.pointer (some ⟨b, 0, none⟩)] (Sort.grow (redrawn wr d) os) fun e w'' => e = .returned (.float .f64 9221120237041090561) ∧ ∃ p : Regrown, w'' = Sort.grow (redrawn wr p.d) p.os := fun d os => Calls.regrown_of (least_0 b _ _ _ _ _ (LA d os))
          have dMo : ∀ d os, Calls Try.prog 18 #[.pointer (some ⟨b, 0, none⟩)] (Sort.grow (redrawn wr d) os) fun e w'' => e = .returned (.float .f64 9221120237041090561) ∧ ∃ p : Regrown, w'' = Sort.grow (redrawn wr p.d) p.os := fun d os => Calls.regrown_of (most_0 b _ _ _ _ _ (LA d os))
          have DT := Lib.hid dT
          have DMe := Lib.hid dMe
          have DSp := Lib.hid dSp
          have DLe := Lib.hid dLe
          have DMo := Lib.hid dMo
          clear dT dMe dSp dLe dMo
          clear LA
          go_wp2_with fail
          refine (regrown0 (told_law _)).mono ?_
          rintro e w' ⟨rfl, ⟨dq, osq⟩, rfl⟩
          go_wp2_with fail
          (first | (with_reducible refine (DMe.out _ _).mono ?_) | (with_reducible refine (DSp.out _ _).mono ?_) | (with_reducible refine (DLe.out _ _).mono ?_) | (with_reducible refine (DMo.out _ _).mono ?_))
          rintro e w' ⟨rfl, ⟨dq, osq⟩, rfl⟩
          go_wp2_with fail
          (first | (with_reducible refine (DMe.out _ _).mono ?_) | (with_reducible refine (DSp.out _ _).mono ?_) | (with_reducible refine (DLe.out _ _).mono ?_) | (with_reducible refine (DMo.out _ _).mono ?_))
          rintro e w' ⟨rfl, ⟨dq, osq⟩, rfl⟩
          go_wp2_with fail
          (first | (with_reducible refine (DMe.out _ _).mono ?_) | (with_reducible refine (DSp.out _ _).mono ?_) | (with_reducible refine (DLe.out _ _).mono ?_) | (with_reducible refine (DMo.out _ _).mono ?_))
          rintro e w' ⟨rfl, ⟨dq, osq⟩, rfl⟩
          go_wp2_with fail
          (first | (with_reducible refine (DMe.out _ _).mono ?_) | (with_reducible refine (DSp.out _ _).mono ?_) | (with_reducible refine (DLe.out _ _).mono ?_) | (with_reducible refine (DMo.out _ _).mono ?_))
          rintro e w' ⟨rfl, ⟨dq, osq⟩, rfl⟩
          go_wp2_with fail
          (first | (with_reducible refine (DMe.out _ _).mono ?_) | (with_reducible refine (DSp.out _ _).mono ?_) | (with_reducible refine (DLe.out _ _).mono ?_) | (with_reducible refine (DMo.out _ _).mono ?_))
          rintro e w' ⟨rfl, ⟨dq, osq⟩, rfl⟩
          go_wp2_with fail
          (first | (with_reducible refine (DMe.out _ _).mono ?_) | (with_reducible refine (DSp.out _ _).mono ?_) | (with_reducible refine (DLe.out _ _).mono ?_) | (with_reducible refine (DMo.out _ _).mono ?_))
          rintro e w' ⟨rfl, ⟨dq, osq⟩, rfl⟩
          go_wp2_with fail
          (first | (with_reducible refine (DMe.out _ _).mono ?_) | (with_reducible refine (DSp.out _ _).mono ?_) | (with_reducible refine (DLe.out _ _).mono ?_) | (with_reducible refine (DMo.out _ _).mono ?_))
          rintro e w' ⟨rfl, ⟨dq, osq⟩, rfl⟩
          go_wp2_with fail
          (first | (with_reducible refine (DMe.out _ _).mono ?_) | (with_reducible refine (DSp.out _ _).mono ?_) | (with_reducible refine (DLe.out _ _).mono ?_) | (with_reducible refine (DMo.out _ _).mono ?_))
          rintro e w' ⟨rfl, ⟨dq, osq⟩, rfl⟩
          go_wp2_with fail
          go_ret
          exact ⟨rfl, by rw [HBB.out]; exact HB2.out.trans ((below_regrown wr dq osq).mono (Nat.le_of_lt HBL.out))⟩
        · have LA : ∀ d os, LineAt (Sort.grow (redrawn wr d) os) b k m s lo hi := fun d os => T.line.below (below_regrown wr d os) HBL.out
          have hk0 : ((k : Int) == 0) = false := by simp; omega
          clear T HT HL0
          have p1 := (pos_tests hm).2.2.2.2
          have p2 : (fo s 0 == some .gt || fo s 0 == some .eq) = true := by
            rw [ord_pos (by omega) (by decide)]
            rcases cmp_cases (s : Int) ((0 : Nat) : Int) with ⟨h, e⟩ | ⟨h, e⟩ | ⟨h, e⟩ <;> rw [e] <;> simp <;> omega
          have p3 := (pos_tests hlo).2.2.2.2
          have p4 := (pos_tests hhi).2.2.2.2
          have dT : ∀ d os, Calls Try.prog 8 #[] (Sort.grow (redrawn wr d) os) fun e w'' => e = .returned (.bool true) ∧ ∃ p : Regrown, w'' = Sort.grow (redrawn wr p.d) p.os := fun d os => Calls.regrown_of (told_law _)
          have dMe : ∀ d os, Calls Try.prog 15 #[.pointer (some ⟨b, 0, none⟩)] (Sort.grow (redrawn wr d) os) fun e w'' => e = .returned (.float .f64 m) ∧ ∃ p : Regrown, w'' = Sort.grow (redrawn wr p.d) p.os := fun d os => Calls.regrown_of (mean_any b _ _ _ _ _ hk0 _ (LA d os))
          have dSp : ∀ d os, Calls Try.prog 16 #[.pointer (some ⟨b, 0, none⟩)] (Sort.grow (redrawn wr d) os) fun e w'' => e = .returned (.float .f64 s) ∧ ∃ p : Regrown, w'' = Sort.grow (redrawn wr p.d) p.os := fun d os => Calls.regrown_of (spread_any b _ _ _ _ _ hk0 _ (LA d os))
          have dLe : ∀ d os, Calls Try.prog 17 #[.pointer (some ⟨b, 0, none⟩)] (Sort.grow (redrawn wr d) os) fun e w'' => e = .returned (.float .f64 lo) ∧ ∃ p : Regrown, w'' = Sort.grow (redrawn wr p.d) p.os := fun d os => Calls.regrown_of (least_any b _ _ _ _ _ hk0 _ (LA d os))
          have dMo : ∀ d os, Calls Try.prog 18 #[.pointer (some ⟨b, 0, none⟩)] (Sort.grow (redrawn wr d) os) fun e w'' => e = .returned (.float .f64 hi) ∧ ∃ p : Regrown, w'' = Sort.grow (redrawn wr p.d) p.os := fun d os => Calls.regrown_of (most_any b _ _ _ _ _ hk0 _ (LA d os))
          have dG : ∀ d os, Calls Try.prog 21 #[.float .f64 lo] (Sort.grow (redrawn wr d) os) fun e w'' => e = .returned (.bool false) ∧ ∃ p : Regrown, w'' = Sort.grow (redrawn wr p.d) p.os := fun d os => Calls.regrown_of ((signbit_pos lo (by omega) _).mono fun _ _ ⟨h, e⟩ => ⟨h, e ▸ Below.refl _ _⟩)
          have DT := Lib.hid dT
          have DMe := Lib.hid dMe
          have DSp := Lib.hid dSp
          have DLe := Lib.hid dLe
          have DMo := Lib.hid dMo
          have DG := Lib.hid dG
          clear dT dMe dSp dLe dMo dG
          clear LA
          go_wp2_with fail
          refine (regrown0 (told_law _)).mono ?_
          rintro e w' ⟨rfl, ⟨dq, osq⟩, rfl⟩
          go_wp2_with fail
          (first | (with_reducible refine (DMe.out _ _).mono ?_) | (with_reducible refine (DSp.out _ _).mono ?_) | (with_reducible refine (DLe.out _ _).mono ?_) | (with_reducible refine (DMo.out _ _).mono ?_) | (with_reducible refine (DG.out _ _).mono ?_))
          rintro e w' ⟨rfl, ⟨dq, osq⟩, rfl⟩
          go_wp2_with fail
          (first | (with_reducible refine (DMe.out _ _).mono ?_) | (with_reducible refine (DSp.out _ _).mono ?_) | (with_reducible refine (DLe.out _ _).mono ?_) | (with_reducible refine (DMo.out _ _).mono ?_) | (with_reducible refine (DG.out _ _).mono ?_))
          rintro e w' ⟨rfl, ⟨dq, osq⟩, rfl⟩
          go_wp2_with fail
          (first | (with_reducible refine (DMe.out _ _).mono ?_) | (with_reducible refine (DSp.out _ _).mono ?_) | (with_reducible refine (DLe.out _ _).mono ?_) | (with_reducible refine (DMo.out _ _).mono ?_) | (with_reducible refine (DG.out _ _).mono ?_))
          rintro e w' ⟨rfl, ⟨dq, osq⟩, rfl⟩
          go_wp2_with fail
          (first | (with_reducible refine (DMe.out _ _).mono ?_) | (with_reducible refine (DSp.out _ _).mono ?_) | (with_reducible refine (DLe.out _ _).mono ?_) | (with_reducible refine (DMo.out _ _).mono ?_) | (with_reducible refine (DG.out _ _).mono ?_))
          rintro e w' ⟨rfl, ⟨dq, osq⟩, rfl⟩
          go_wp2_with fail
          (first | (with_reducible refine (DMe.out _ _).mono ?_) | (with_reducible refine (DSp.out _ _).mono ?_) | (with_reducible refine (DLe.out _ _).mono ?_) | (with_reducible refine (DMo.out _ _).mono ?_) | (with_reducible refine (DG.out _ _).mono ?_))
          rintro e w' ⟨rfl, ⟨dq, osq⟩, rfl⟩
          go_wp2_with fail
          (first | (with_reducible refine (DMe.out _ _).mono ?_) | (with_reducible refine (DSp.out _ _).mono ?_) | (with_reducible refine (DLe.out _ _).mono ?_) | (with_reducible refine (DMo.out _ _).mono ?_) | (with_reducible refine (DG.out _ _).mono ?_))
          rintro e w' ⟨rfl, ⟨dq, osq⟩, rfl⟩
          go_wp2_with fail
          (first | (with_reducible refine (DMe.out _ _).mono ?_) | (with_reducible refine (DSp.out _ _).mono ?_) | (with_reducible refine (DLe.out _ _).mono ?_) | (with_reducible refine (DMo.out _ _).mono ?_) | (with_reducible refine (DG.out _ _).mono ?_))
          rintro e w' ⟨rfl, ⟨dq, osq⟩, rfl⟩
          go_wp2_with fail
          go_ret
          exact ⟨rfl, by rw [HBB.out]; exact HB2.out.trans ((below_regrown wr dq osq).mono (Nat.le_of_lt HBL.out))⟩
end Go.Proofs.Ytoefnagenooaiaa
