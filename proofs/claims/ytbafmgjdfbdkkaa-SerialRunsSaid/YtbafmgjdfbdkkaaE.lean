/-
  Serial: the Go text of SerialRuns returns true for every input.
-/
import Derived.Test.YtbafmgjdfbdkkaaD
namespace Go.Proofs.Ytbafmgjdfbdkkaa
set_option linter.unusedVariables false
open Go.ChangeShapes Go.WideShapes Go.ChangeAt Go.RowKit

def RunSt (a : Int) (i : Nat) (is : Bool) (l : Int) (m : Nat) : Prop :=
  (i = 0 ∧ is = false ∧ l = 0 ∧ m = 0) ∨
  (1 ≤ i ∧ is = true ∧ l = (a + (i - 1)) % 65536 ∧ ∀ j, m.testBit j = decide (j < 32 ∧ j + 1 < i))

theorem run_step (a : Int) (i : Nat) (is : Bool) (l : Int) (m : Nat) (a0 : 0 ≤ a) (a1 : a ≤ 65535) (h : RunSt a i is l m) (s : Int) (hs : s = (a + i) % 65536) :
    noteB is l s m = true ∧ noteB true (noteL is l s) s (noteM is l s m) = false ∧ noteL true (noteL is l s) s = noteL is l s ∧
    noteM true (noteL is l s) s (noteM is l s m) = noteM is l s m ∧ RunSt a (i + 1) true (noteL is l s) (noteM is l s m) := by
  have hL : noteL is l s = s := by
    rcases h with ⟨hi, his, hl, hm⟩ | ⟨hi, his, hl, hm⟩
    · simp [noteL, his]
    · have hw : way l s = 1 := by rw [way_eq]; omega
      simp [noteL, his, hw]
  have hB : noteB is l s m = true := by
    rcases h with ⟨hi, his, hl, hm⟩ | ⟨hi, his, hl, hm⟩
    · simp [noteB, his]
    · have hw : way l s = 1 := by rw [way_eq]; omega
      simp [noteB, his, hw]
  have h0 : way s s = 0 := by rw [way_eq]; omega
  rw [hL]
  have e1 : noteB true s s (noteM is l s m) = false := by simp [noteB, h0]
  have e2 : noteL true s s = s := by simp [noteL, h0]
  have e3 : noteM true s s (noteM is l s m) = noteM is l s m := by
    generalize noteM is l s m = x
    simp [noteM, h0]
  refine ⟨hB, e1, e2, e3, Or.inr ⟨by omega, rfl, by rw [hs]; push_cast; congr 1; omega, ?_⟩⟩
  intro j
  rcases h with ⟨hi, his, hl, hm⟩ | ⟨hi, his, hl, hm⟩
  · subst his hm hi
    simp [noteM]
  · have hw : way l s = 1 := by rw [way_eq]; omega
    subst his
    unfold noteM
    rw [hw, if_neg (by simp), if_neg (by omega), if_pos (by omega)]
    simp only [bitN]
    rw [Nat.testBit_or, Nat.testBit_mod_two_pow, Nat.testBit_two_pow, show (1 : Int).toNat = 1 from rfl, Nat.testBit_mul_two_pow, hm]
    by_cases hj : j = 0
    · subst hj; simp; omega
    · have : ¬ (1 - 1 = j) := by omega
      rw [Bool.eq_iff_iff]
      simp [this]
      intro h32
      constructor <;> intro h33 <;> omega

theorem run_told (a : Int) (k : Nat) (is : Bool) (l : Int) (m : Nat) (h : RunSt a k is l m) (hk : 1 ≤ k) (i : Nat) (hi : i < 40) (l0 : 0 ≤ l) (l1 : l ≤ 65535) :
    toldN ((l - i) % 65536) l m = decide (i < k ∧ i ≤ 32) := by
  rcases h with ⟨h0, -⟩ | ⟨-, -, -, hm⟩
  · omega
  have hw : way ((l - i) % 65536) l = i := by rw [way_eq]; omega
  unfold toldN
  rw [hw, hm]
  by_cases h0 : i = 0
  · subst h0; simp; omega
  · rw [Bool.eq_iff_iff]
    simp
    omega

theorem run_ahead (l : Int) (m : Nat) (l0 : 0 ≤ l) (l1 : l ≤ 65535) : toldN ((l + 1) % 65536) l m = false := by
  have hw : way ((l + 1) % 65536) l = -1 := by rw [way_eq]; omega
  unfold toldN
  rw [hw]; simp

/-- The round's facts on the world. -/
def RunW (a : Int) (B : Nat) (w : World) (i : Nat) (wr : World) : Prop :=
  ∃ is l, ∃ m : Nat, HeardAt wr B is l m ∧ Below B w wr ∧ m < 2 ^ 32 ∧ RunSt a i is l m

set_option maxHeartbeats 400000 in
theorem law_SerialRuns (a0 a1 : Int) (w0 : (Lit.int .u16 a0).wf = true) (w1 : (Lit.int .i64 a1).wf = true) (w : World) :
    Calls Try.prog 7 #[.int .u16 a0, .int .i64 a1] w fun e w' => e = .returned (.bool true) ∧ Below w.heap.size w w' := by
  obtain ⟨a00, a01⟩ := u16_bd w0
  have hu : 0 ≤ IntKind.u64.wrap a1 := by simp [IntKind.wrap, IntKind.bits, IntKind.signed]; omega
  obtain ⟨k, hk⟩ : ∃ k : Nat, (k : Int) = 1 + IntKind.u64.wrap a1 % 100 := ⟨(1 + IntKind.u64.wrap a1 % 100).toNat, by omega⟩
  have k0 : 1 ≤ k := by omega
  have k1 : k ≤ 100 := by omega
  have Hk := Lib.hid hk
  clear w0 w1 hk
  generalize hB0 : w.heap.size = B
  have HB := Lib.hid hB0
  clear hB0
  go_enter Try.func7, Try.ntmps7
  go_wp2_with fail
  refine new_named w ?_
  intro b x1 hb hn hB hs
  obtain rfl : B = b := HB.out.symm.trans hb
  clear hb
  go_wp2_with fail
  rw [← Hk.out]
  go_loopw [7] (fun i wr => ∃ n : Nat, n ≤ k ∧ i = .int .i64 n ∧ RunW a0 B w n wr) (fun i _ => k - (intOf i).toNat)
  case atStart => exact ⟨0, by omega, rfl, false, 0, 0, hn, hB, by decide, Or.inl ⟨rfl, rfl, rfl, rfl⟩⟩
  case round =>
    obtain ⟨n, hn1, rfl, is, l, m, hh, hB1, hm, hst⟩ := hrel
    clear hn hB hs
    by_cases hlt : n < k
    · obtain ⟨e1, e2, e3, e4, e5⟩ := run_step a0 n is l m a00 a01 hst _ rfl
      rw [← wrap_u16] at e1 e2 e3 e4 e5
      have E1 := Lib.hid e1
      have E2 := Lib.hid e2
      have E3 := Lib.hid e3
      have E4 := Lib.hid e4
      have E5 := Lib.hid e5
      have HM := Lib.hid hm
      have HS := Lib.hid hst
      clear e1 e2 e3 e4 e5 hm hst
      go_wp2_with fail
      refine (note_any B is l _ m HM.out _ hh).mono ?_
      rintro e x2 ⟨rfl, h2, o2⟩
      rw [E1.out]
      have l2 := noteM_lt is l (IntKind.u16.wrap (a0 + n)) m HM.out
      have L2 := Lib.hid l2
      clear l2
      go_wp2_with fail
      refine (note_any B true _ _ _ L2.out _ h2).mono ?_
      rintro e x3 ⟨rfl, h3, o3⟩
      rw [E2.out]
      rw [E3.out, E4.out] at h3
      have hB3 : Below B w x3 := hB1.trans ((o2.trans o3).below (Nat.le_refl _))
      clear h2 o2 o3 hh hB1
      go_wp2_with fail
      go_roundw
      case rel => exact ⟨n + 1, by omega, by go_num, true, _, _, h3, hB3, L2.out, E5.out⟩
      case measure => simp [intOf]; omega
    · obtain rfl : n = k := by omega
      have hl : 0 ≤ l ∧ l ≤ 65535 ∧ l = (a0 + (n - 1)) % 65536 := by
        rcases hst with ⟨h0, -⟩ | ⟨-, -, hl, -⟩ <;> omega
      obtain ⟨l0, l1, l2⟩ := hl
      have e1 : (l != IntKind.u16.wrap (a0 + ((n : Int) - 1))) = false := by
        rw [bne_eq_false_iff_eq, wrap_u16]; omega
      have E1 := Lib.hid e1
      have HM := Lib.hid hm
      have HS := Lib.hid hst
      clear l2 hm hst e1
      go_wp2_with fail
      refine (last_any B is l m _ hh).mono ?_
      rintro e x4 ⟨rfl, n4, rfl⟩
      have hB4 : Below B w (wr.drewN n4) := hB1.trans ⟨rfl, rfl, rfl, Nat.le_refl _, fun _ _ => rfl⟩
      clear hh hB1
      generalize wr.drewN n4 = x4 at hB4 ⊢
      have E1' := E1.out
      go_wp2_with fail
      clear E1'
      go_loop [10] (fun i => ∃ j : Nat, j ≤ 40 ∧ i = .int .i64 j) (fun i => 40 - (intOf i).toNat)
      case atStart => exact ⟨0, by omega, rfl⟩
      case round =>
        obtain ⟨j, hj, rfl⟩ := hrel
        by_cases hj2 : j < 40
        · have r1 := run_told a0 n is l m HS.out k0 j hj2 l0 l1
          rw [← wrap_u16] at r1
          have R1 := Lib.hid r1
          clear r1
          by_cases c1 : j < n
          · by_cases c2 : j ≤ 32
            · have D2 : decide ((j : Int) ≤ 32) = true := by simp; omega
              go_wp2_with fail
              refine (told_any' _ l m HM.out _).mono ?_
              rintro e w' ⟨rfl, rfl⟩
              rw [R1.out, decide_eq_true ⟨c1, c2⟩]
              go_wp2_with fail
              go_round
              all_goals first | exact ⟨⟨j + 1, by omega, by go_num⟩, by simp [intOf]; omega⟩ | exact ⟨j + 1, by omega, by go_num⟩ | (simp [intOf]; omega)
            · have D2 : decide ((j : Int) ≤ 32) = false := by simp; omega
              go_wp2_with fail
              refine (told_any' _ l m HM.out _).mono ?_
              rintro e w' ⟨rfl, rfl⟩
              rw [R1.out, decide_eq_false (fun h => c2 h.2)]
              go_wp2_with fail
              all_goals first | exact ⟨⟨j + 1, by omega, by go_num⟩, by simp [intOf]; omega⟩ | exact ⟨j + 1, by omega, by go_num⟩ | (simp [intOf]; omega)
          · go_wp2_with fail
            refine (told_any' _ l m HM.out _).mono ?_
            rintro e w' ⟨rfl, rfl⟩
            rw [R1.out, decide_eq_false (fun h => c1 h.1)]
            go_wp2_with fail
            all_goals first | exact ⟨⟨j + 1, by omega, by go_num⟩, by simp [intOf]; omega⟩ | exact ⟨j + 1, by omega, by go_num⟩ | (simp [intOf]; omega)
        · have r2 := run_ahead l m l0 l1
          rw [← wrap_u16] at r2
          have R2 := Lib.hid r2
          clear r2
          go_wp2_with fail
          refine (told_law _).mono ?_
          rintro e x5 ⟨rfl, hB5⟩
          have hB5' : Below B w x5 := hB4.trans (hB5.mono (by have := hB4.size; have := HB.out; omega))
          go_wp2_with fail
          refine (told_any' _ l m HM.out _).mono ?_
          rintro e w' ⟨rfl, rfl⟩
          rw [R2.out]
          go_wp2_with fail
          go_ret
          exact ⟨rfl, hB5'⟩
end Go.Proofs.Ytbafmgjdfbdkkaa
