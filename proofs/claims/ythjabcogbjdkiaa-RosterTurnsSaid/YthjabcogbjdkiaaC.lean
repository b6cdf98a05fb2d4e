/-
  Roster: May.
-/
import Derived.Test.YthjabcogbjdkiaaB
namespace Go.Proofs.Ythjabcogbjdkiaa
set_option linter.unusedVariables false
open Go.ChangeShapes Go.WideShapes Go.ChangeAt Go.RowKit

theorem Frame.below {P : Nat → Prop} {w w' : World} (a : Frame P w w') (h : Nat) (hs : h ≤ w.heap.size) (hP : ∀ k, P k → h ≤ k) : Below h w w' :=
  ⟨a.os, a.tape, a.output, a.size, fun k hk => a.block k (by omega) (fun hp => by have := hP k hp; omega)⟩
theorem seats_new (v : Int) (P G : Nat → Int) (T : TypeId) (w : World) : SeatsAt (w.alloc (Obj.cells #[.int .i64 v, .int .i64 (P 0), .int .i64 (G 0), .int .i64 (P 1), .int .i64 (G 1), .int .i64 (P 2), .int .i64 (G 2), .int .i64 (P 3), .int .i64 (G 3), .int .i64 (P 4), .int .i64 (G 4), .int .i64 (P 5), .int .i64 (G 5), .int .i64 (P 6), .int .i64 (G 6), .int .i64 (P 7), .int .i64 (G 7)] T)) w.heap.size P G := by
  constructor
  · intro n hn
    rcases (by omega : n = 0 ∨ n = 1 ∨ n = 2 ∨ n = 3 ∨ n = 4 ∨ n = 5 ∨ n = 6 ∨ n = 7) with rfl | rfl | rfl | rfl | rfl | rfl | rfl | rfl
    all_goals (rw [World.cell?_alloc_new]; rfl)
  · intro n hn
    rcases (by omega : n = 0 ∨ n = 1 ∨ n = 2 ∨ n = 3 ∨ n = 4 ∨ n = 5 ∨ n = 6 ∨ n = 7) with rfl | rfl | rfl | rfl | rfl | rfl | rfl | rfl
    all_goals (rw [World.cell?_alloc_new]; rfl)
theorem contains_19 (b S : Nat) (P G : Nat → Int) (w : World) (hs : SeatsAt w b P G) (hbS : b ≠ S) (hb : b < w.heap.size) (hS : S < w.heap.size) (c : w.cell? ⟨S, 0, none⟩ = some (.int .i64 0)) (f : w.frozen? ⟨S, 0, none⟩ = false) :
    Calls Try.prog 18 #[.slice (some ⟨b, 1, none⟩) 8 8, .func (.func 19) #[] #[.pointer (some ⟨S, 0, none⟩)]] w fun e w' => e = .returned (.bool (anyBad P G 8)) ∧ Frame (fun k => k = S) w w' := by
  go_enter Try.func18, Try.ntmps18
  go_wp2_with fail
  refine (idx_19 b S P G _ hs hbS hb hS c f).mono ?_
  rintro e w2 ⟨⟨r, rfl, hr⟩, hF⟩
  have HR := Lib.hid hr
  have HF := Lib.hid hF
  clear hr hF
  go_wp2_with fail
  go_ret
  exact ⟨by first | rfl | (rw [HR.out]; rfl), HF.out⟩
theorem may_any (v : Int) (P G : Nat → Int) (w : World) :
    Calls Try.prog 11 #[.agg #[.int .i64 v, .int .i64 (P 0), .int .i64 (G 0), .int .i64 (P 1), .int .i64 (G 1), .int .i64 (P 2), .int .i64 (G 2), .int .i64 (P 3), .int .i64 (G 3), .int .i64 (P 4), .int .i64 (G 4), .int .i64 (P 5), .int .i64 (G 5), .int .i64 (P 6), .int .i64 (G 6), .int .i64 (P 7), .int .i64 (G 7)]] w fun e w' => e = .returned (.bool (mayR v P G)) ∧ Below w.heap.size w w' := by
  unfold mayR
  by_cases h1 : 0 ≤ v
  · by_cases h2 : v ≤ 1073741824
    · rw [decide_eq_true h1, decide_eq_true h2]
      go_enter Try.func11, Try.ntmps11
      go_wp2_with fail
      have hsz : (w.alloc (Obj.cells #[.int .i64 v, .int .i64 (P 0), .int .i64 (G 0), .int .i64 (P 1), .int .i64 (G 1), .int .i64 (P 2), .int .i64 (G 2), .int .i64 (P 3), .int .i64 (G 3), .int .i64 (P 4), .int .i64 (G 4), .int .i64 (P 5), .int .i64 (G 5), .int .i64 (P 6), .int .i64 (G 6), .int .i64 (P 7), .int .i64 (G 7)] 27)).heap.size = w.heap.size + 1 := by simp
      have hs := seats_new v P G 27 w
      have hbel := (Below.refl w.heap.size w).alloc (Nat.le_refl _) (Obj.cells #[.int .i64 v, .int .i64 (P 0), .int .i64 (G 0), .int .i64 (P 1), .int .i64 (G 1), .int .i64 (P 2), .int .i64 (G 2), .int .i64 (P 3), .int .i64 (G 3), .int .i64 (P 4), .int .i64 (G 4), .int .i64 (P 5), .int .i64 (G 5), .int .i64 (P 6), .int .i64 (G 6), .int .i64 (P 7), .int .i64 (G 7)] 27)
      generalize w.alloc (Obj.cells #[.int .i64 v, .int .i64 (P 0), .int .i64 (G 0), .int .i64 (P 1), .int .i64 (G 1), .int .i64 (P 2), .int .i64 (G 2), .int .i64 (P 3), .int .i64 (G 3), .int .i64 (P 4), .int .i64 (G 4), .int .i64 (P 5), .int .i64 (G 5), .int .i64 (P 6), .int .i64 (G 6), .int .i64 (P 7), .int .i64 (G 7)] 27) = w1 at hs hsz hbel ⊢
      have hA1 := Below.heap_alloc w1 (Obj.cells #[.int .i64 0] 3) w.heap.size (by omega)
      have hb2 := hbel.alloc (by omega) (Obj.cells #[.int .i64 0] 3)
      have hz2 : (w1.alloc (Obj.cells #[.int .i64 0] 3)).heap.size = w.heap.size + 2 := by simp; omega
      refine (contains_19 w.heap.size (w.heap.size + 1) P G _ (hs.block hA1) (by omega) (by omega) (by omega) (by rw [← hsz, World.cell?_alloc_new]; rfl) (by rw [← hsz, World.frozen?_alloc_new])).mono ?_
      rintro e w2 ⟨rfl, hF⟩
      have HF := Lib.hid (hb2.trans (hF.below w.heap.size (by omega) (fun k hk => by omega)))
      clear hF hb2 hA1 hs
      go_wp2_with fail
      go_ret
      exact ⟨by simp, HF.out⟩
    · have d2 := decide_eq_false h2
      rw [d2, Bool.and_false, Bool.false_and]
      go_enter Try.func11, Try.ntmps11
      go_wp2_with fail
      go_ret
      exact ⟨rfl, ((Below.refl _ w).alloc (Nat.le_refl _) _).alloc (by simp) _⟩
  · have d1 := decide_eq_false h1
    rw [d1, Bool.false_and, Bool.false_and]
    go_enter Try.func11, Try.ntmps11
    go_wp2_with fail
    go_ret
    exact ⟨rfl, ((Below.refl _ w).alloc (Nat.le_refl _) _).alloc (by simp) _⟩

def OfSpec (v : Int) (P G : Nat → Int) (peer r : Int) : Prop :=
  (r = -1 ∧ (peer < 0 ∨ mayR v P G = false ∨ ∀ n, n < 8 → P n ≠ peer)) ∨ (∃ n : Nat, n < 8 ∧ r = n ∧ P n = peer ∧ 0 ≤ peer ∧ mayR v P G = true ∧ ∀ m, m < n → P m ≠ peer)
theorem peer_is (p g q : Int) (S : Nat) (w : World) (c : w.cell? ⟨S, 0, none⟩ = some (.int .i64 q)) :
    Calls Try.prog 16 #[.agg #[.int .i64 p, .int .i64 g], .pointer (some ⟨S, 0, none⟩)] w fun e w' => e = .returned (.bool (p == q)) ∧ Below w.heap.size w w' := by
  have hS := block_of_cell c
  go_enter Try.func16, Try.ntmps16
  go_wp2
  go_ret
  exact ⟨rfl, (Below.refl _ w).alloc (Nat.le_refl _) _⟩
set_option maxHeartbeats 1000000 in
theorem idx_16 (b S : Nat) (q : Int) (P G : Nat → Int) (w : World) (hs : SeatsAt w b P G) (hb : b < w.heap.size) (c : w.cell? ⟨S, 0, none⟩ = some (.int .i64 q)) :
    Calls Try.prog 15 #[.slice (some ⟨b, 1, none⟩) 8 8, .func (.func 16) #[] #[.pointer (some ⟨S, 0, none⟩)]] w fun e w' => (∃ r : Int, e = .returned (.int .i64 r) ∧ ((r = -1 ∧ ∀ n, n < 8 → P n ≠ q) ∨ (∃ n : Nat, n < 8 ∧ r = n ∧ P n = q ∧ ∀ m, m < n → P m ≠ q))) ∧ Below w.heap.size w w' := by
  have HS := Lib.hid hs
  have hS := block_of_cell c
  have HC := Lib.hid c
  clear hs c
  go_enter Try.func15, Try.ntmps15
  go_wp2_with fail
  go_loopw [8] (fun i wr => ∃ n : Nat, n ≤ 8 ∧ i = .int .i64 n ∧ (∀ m, m < n → P m ≠ q) ∧ Below w.heap.size w wr) (fun i _ => 8 - (intOf i).toNat)
  case atStart => exact ⟨0, by omega, rfl, fun m hm => by omega, Below.refl _ _⟩
  case round =>
    obtain ⟨n, hn, rfl, hnb, hF⟩ := hrel
    have HNB := Lib.hid hnb
    have HF := Lib.hid hF
    clear hnb
    by_cases hlt : n < 8
    · have hsr := HS.out.block (hF.block b hb)
      have d0 := hsr.p n hlt
      have d1 := hsr.g n hlt
      have hc := (hF.cell (p := ⟨S, 0, none⟩) hS).trans HC.out
      clear hsr hF
      have HP : Hid (∃ p, p = P n) := Lib.hid ⟨_, rfl⟩
      obtain ⟨p, hp⟩ := HP.out
      rw [← hp] at d0
      have HPn := Lib.hid hp
      clear hp HP
      generalize G n = g at *
      go_wp2_with fail
      refine (peer_is p g q S _ hc).mono ?_
      rintro e w2 ⟨rfl, hb2⟩
      have HF2 := Lib.hid (HF.out.trans (hb2.mono HF.out.size))
      clear hb2
      cases hpq : (p == q) with
      | true =>
        have e := eq_of_beq hpq
        have HE := Lib.hid (HPn.out.symm.trans e)
        clear hpq e
        go_wp2_with fail
        go_ret
        exact ⟨⟨n, rfl, Or.inr ⟨n, hlt, rfl, HE.out, HNB.out⟩⟩, HF2.out⟩
      | false =>
        have hne : ∀ m, m < n + 1 → P m ≠ q := fun m hm => by
          by_cases e : m = n
          · subst e; rw [← HPn.out]; simpa using hpq
          · exact HNB.out m (by omega)
        have HNE := Lib.hid hne
        clear hpq hne
        go_wp2_with fail
        all_goals first | exact ⟨⟨n + 1, by omega, by go_num, HNE.out, HF2.out⟩, by simp [intOf]; omega⟩ | exact ⟨n + 1, by omega, by go_num, HNE.out, HF2.out⟩ | (simp [intOf]; omega) | go_roundw
    · obtain rfl : n = 8 := by omega
      go_wp2_with fail
      go_ret
      exact ⟨⟨-1, rfl, Or.inl ⟨rfl, HNB.out⟩⟩, HF.out⟩
theorem of_any (v peer : Int) (P G : Nat → Int) (w : World) :
    Calls Try.prog 7 #[.agg #[.int .i64 v, .int .i64 (P 0), .int .i64 (G 0), .int .i64 (P 1), .int .i64 (G 1), .int .i64 (P 2), .int .i64 (G 2), .int .i64 (P 3), .int .i64 (G 3), .int .i64 (P 4), .int .i64 (G 4), .int .i64 (P 5), .int .i64 (G 5), .int .i64 (P 6), .int .i64 (G 6), .int .i64 (P 7), .int .i64 (G 7)], .int .i64 peer] w fun e w' => (∃ r : Int, e = .returned (.int .i64 r) ∧ OfSpec v P G peer r) ∧ Below w.heap.size w w' := by
  by_cases h1 : peer < 0
  · have d1 := decide_eq_true h1
    go_enter Try.func7, Try.ntmps7
    go_wp2_with fail
    go_ret
    exact ⟨⟨-1, rfl, Or.inl ⟨rfl, Or.inl h1⟩⟩, ((Below.refl _ w).alloc (Nat.le_refl _) _).alloc (by simp) _⟩
  · have d1 := decide_eq_false h1
    go_enter Try.func7, Try.ntmps7
    go_wp2_with fail
    have hsz : (w.alloc (Obj.cells #[.int .i64 v, .int .i64 (P 0), .int .i64 (G 0), .int .i64 (P 1), .int .i64 (G 1), .int .i64 (P 2), .int .i64 (G 2), .int .i64 (P 3), .int .i64 (G 3), .int .i64 (P 4), .int .i64 (G 4), .int .i64 (P 5), .int .i64 (G 5), .int .i64 (P 6), .int .i64 (G 6), .int .i64 (P 7), .int .i64 (G 7)] 27)).heap.size = w.heap.size + 1 := by simp
    have hs := seats_new v P G 27 w
    have hbel := (Below.refl w.heap.size w).alloc (Nat.le_refl _) (Obj.cells #[.int .i64 v, .int .i64 (P 0), .int .i64 (G 0), .int .i64 (P 1), .int .i64 (G 1), .int .i64 (P 2), .int .i64 (G 2), .int .i64 (P 3), .int .i64 (G 3), .int .i64 (P 4), .int .i64 (G 4), .int .i64 (P 5), .int .i64 (G 5), .int .i64 (P 6), .int .i64 (G 6), .int .i64 (P 7), .int .i64 (G 7)] 27)
    generalize w.alloc (Obj.cells #[.int .i64 v, .int .i64 (P 0), .int .i64 (G 0), .int .i64 (P 1), .int .i64 (G 1), .int .i64 (P 2), .int .i64 (G 2), .int .i64 (P 3), .int .i64 (G 3), .int .i64 (P 4), .int .i64 (G 4), .int .i64 (P 5), .int .i64 (G 5), .int .i64 (P 6), .int .i64 (G 6), .int .i64 (P 7), .int .i64 (G 7)] 27) = w1 at hs hsz hbel ⊢
    have hA1 := Below.heap_alloc w1 (Obj.cells #[.int .i64 peer] 3) w.heap.size (by omega)
    have hb2 := hbel.alloc (by omega) (Obj.cells #[.int .i64 peer] 3)
    have hz2 : (w1.alloc (Obj.cells #[.int .i64 peer] 3)).heap.size = w.heap.size + 2 := by simp; omega
    have hs2 := hs.block hA1
    have hc2 : (w1.alloc (Obj.cells #[.int .i64 peer] 3)).cell? ⟨w.heap.size + 1, 0, none⟩ = some (.int .i64 peer) := by rw [← hsz, World.cell?_alloc_new]; rfl
    clear hs hA1
    generalize w1.alloc (Obj.cells #[.int .i64 peer] 3) = w2 at *
    refine (may_any v P G _).mono ?_
    rintro e w3 ⟨rfl, hb3⟩
    have HS3 := Lib.hid (hs2.block (hb3.block w.heap.size (by omega)))
    have HC3 := Lib.hid ((hb3.cell (p := ⟨w.heap.size + 1, 0, none⟩) (by show w.heap.size + 1 < _; omega)).trans hc2)
    have HB3 := Lib.hid (hb2.trans (hb3.mono (by omega)))
    have hz3 := hb3.size
    clear hs2 hc2 hb3 hb2 hbel
    cases hm : mayR v P G with
    | true =>
      have HM := Lib.hid hm
      clear hm
      go_wp2_with fail
      refine (idx_16 w.heap.size (w.heap.size + 1) peer P G _ HS3.out (by omega) HC3.out).mono ?_
      rintro e w4 ⟨⟨r, rfl, hr⟩, hb4⟩
      have HR := Lib.hid hr
      have HB4 := Lib.hid (HB3.out.trans (hb4.mono (by omega)))
      clear hr hb4
      go_wp2_with fail
      go_ret
      refine ⟨⟨r, rfl, ?_⟩, HB4.out⟩
      rcases HR.out with ⟨h, h'⟩ | ⟨n, h2, h3, h4, h5⟩
      · exact Or.inl ⟨h, Or.inr (Or.inr h')⟩
      · exact Or.inr ⟨n, h2, h3, h4, by omega, HM.out, h5⟩
    | false =>
      have HM := Lib.hid hm
      clear hm
      go_wp2_with fail
      go_ret
      exact ⟨⟨-1, rfl, Or.inl ⟨rfl, Or.inr (Or.inl HM.out)⟩⟩, HB3.out⟩
end Go.Proofs.Ythjabcogbjdkiaa
