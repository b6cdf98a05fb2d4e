/-
  Serial: the Go text of SerialNotes returns true for every input.
-/
import Derived.Test.YtbafmgjdfbdkkaaH
namespace Go.Proofs.Ytbafmgjdfbdkkaa
set_option linter.unusedVariables false
open Go.ChangeShapes Go.WideShapes Go.ChangeAt Go.RowKit

theorem rlast_any (b : Nat) (is : Bool) (l : Int) (c : Nat → Bool) (w : World) (h : RefAt w b is l c) :
    Calls Try.prog 19 #[.pointer (some ⟨b, 0, none⟩)] w fun e w' => (∃ m : Nat, e = .returned (.tuple #[.int .u16 l, .int .u32 m]) ∧ m < 2 ^ 32 ∧ ∀ j, m.testBit j = (decide (j < 32) && c (j + 1))) ∧ w = w' := by
  obtain ⟨c0, c1, f0, f1, hc⟩ := h
  have HC := Lib.hid hc
  clear hc
  go_enter Try.func19, Try.ntmps19
  go_wp2
  go_loop [4, 5] (fun v i => ∃ n : Nat, ∃ m : Nat, 1 ≤ n ∧ n ≤ 33 ∧ i = .int .i64 n ∧ v = .int .u32 m ∧ m < 2 ^ 32 ∧ Hid (∀ j, m.testBit j = (decide (j + 1 < n) && c (j + 1)))) (fun _ i => 33 - (intOf i).toNat)
  case atStart => exact ⟨1, 0, by omega, by omega, rfl, rfl, by decide, fun j => by simp⟩
  case round =>
    obtain ⟨n, m, hn0, hn1, rfl, rfl, hm, HB⟩ := hrel
    by_cases hlt : n < 33
    · have ck := HC.out.cell n hlt
      have HM := Lib.hid hm
      clear hm
      cases hcn : c n with
      | true =>
        rw [hcn] at ck
        have e1 : bits BinOp.or IntKind.u32 (m : Int) (2 ^ (n - 1) % 4294967296) = ((m ||| 2 ^ (n - 1) : Nat) : Int) := by
          have hb := bitN_cast (n := n) (by omega) (by omega)
          have hb2 := bitN_lt (n := n) (by omega) (by omega)
          unfold bitN at hb hb2
          rw [Int.toNat_natCast] at hb hb2
          rw [hb, (u32_bits _ _ HM.out hb2).2]
        have e2 : m ||| 2 ^ (n - 1) < 2 ^ 32 := Nat.or_lt_two_pow HM.out (Nat.pow_lt_pow_right (by omega) (by omega))
        have e3 : ∀ j, (m ||| 2 ^ (n - 1)).testBit j = (decide (j + 1 < n + 1) && c (j + 1)) := by
          intro j
          rw [Nat.testBit_or, HB.out, Nat.testBit_two_pow]
          by_cases hj : n - 1 = j
          · have : j + 1 = n := by omega
            rw [this, hcn]; simp [hj]
          · have h2 : decide (n - 1 = j) = false := by simp [hj]
            rw [h2, Bool.or_false]
            have h3 : decide (j + 1 < n + 1) = decide (j + 1 < n) := by
              rw [decide_eq_decide]; omega
            rw [h3]
        have E1 := Lib.hid e1
        have E2 := Lib.hid e2
        have E3 := Lib.hid e3
        clear e1 e2 e3 hcn
        go_wp2
        all_goals first | exact ⟨⟨n + 1, m ||| 2 ^ (n - 1), by omega, by omega, by go_num, by rw [E1.out], E2.out, E3.out⟩, by simp [intOf]; omega⟩ | exact ⟨n + 1, m ||| 2 ^ (n - 1), by omega, by omega, by go_num, by rw [E1.out], E2.out, E3.out⟩ | (simp [intOf]; omega) | go_roundw
      | false =>
        rw [hcn] at ck
        have e3 : ∀ j, m.testBit j = (decide (j + 1 < n + 1) && c (j + 1)) := by
          intro j
          rw [HB.out]
          by_cases hj : n - 1 = j
          · have : j + 1 = n := by omega
            rw [this, hcn]; simp
          · have h3 : decide (j + 1 < n + 1) = decide (j + 1 < n) := by
              rw [decide_eq_decide]; omega
            rw [h3]
        have E3 := Lib.hid e3
        clear e3 hcn
        go_wp2
        all_goals first | exact ⟨⟨n + 1, m, by omega, by omega, by go_num, rfl, HM.out, E3.out⟩, by simp [intOf]; omega⟩ | exact ⟨n + 1, m, by omega, by omega, by go_num, rfl, HM.out, E3.out⟩ | (simp [intOf]; omega) | go_roundw
    · obtain rfl : n = 33 := by omega
      have hfin : (∃ m' : Nat, Ending.returned (.tuple #[.int .u16 l, .int .u32 (m : Int)]) = .returned (.tuple #[.int .u16 l, .int .u32 (m' : Int)]) ∧ m' < 2 ^ 32 ∧ ∀ j, m'.testBit j = (decide (j < 32) && c (j + 1))) :=
        ⟨m, rfl, hm, fun j => by rw [HB.out]; congr 1; rw [decide_eq_decide]; omega⟩
      have HF := Lib.hid hfin
      clear hfin hm HB
      go_wp2
      go_ret2
      exact ⟨HF.out, rfl⟩

/-- The program's Heard and the reference's tell the same. -/
def SameHeard (is : Bool) (l : Int) (m : Nat) (c : Nat → Bool) : Prop :=
  (0 ≤ l ∧ l ≤ 65535) ∧ m < 2 ^ 32 ∧ (∀ j, j < 32 → m.testBit j = c (j + 1)) ∧ (c 0 = is) ∧ (is = false → m = 0)

def refC (is : Bool) (l s : Int) (c : Nat → Bool) : Nat → Bool :=
  if is = false then upd c 0 true else if 0 < way l s then upd (shiftTo c (way l s).toNat 33) 0 true
  else if way l s < -32 then c else upd c (-way l s).toNat true

theorem high_bits {m : Nat} (h : m < 2 ^ 32) (j : Nat) (hj : 32 ≤ j) : m.testBit j = false :=
  Nat.testBit_lt_two_pow (Nat.lt_of_lt_of_le h (Nat.pow_le_pow_right (by decide) hj))

theorem same_step (is : Bool) (l s : Int) (m : Nat) (c : Nat → Bool) (h : SameHeard is l m c) (s0 : 0 ≤ s) (s1 : s ≤ 65535) :
    SameHeard true (noteL is l s) (noteM is l s m) (refC is l s c) ∧
    (is = true → way l s ≤ 0 → -32 ≤ way l s → c (-way l s).toNat = !(noteB is l s m)) := by
  obtain ⟨⟨l0, l1⟩, hm, hc, h0, hi⟩ := h
  have hlt := noteM_lt is l s m hm
  have hd := way_hi l s
  have hd' := way_lo l s
  cases is with
  | false =>
    refine ⟨⟨by simp [noteL, s0, s1], hlt, ?_, by simp [refC, upd], by simp⟩, by simp⟩
    intro j hj
    have : m = 0 := hi rfl
    subst this
    have := hc j hj
    simp at this
    simp [noteM, refC, upd, ← this]
  | true =>
    by_cases c1 : 0 < way l s
    · have hL : noteL true l s = s := by simp [noteL, c1]
      refine ⟨⟨by rw [hL]; exact ⟨s0, s1⟩, hlt, ?_, by simp [refC, upd, c1], by simp⟩, by intros; omega⟩
      intro j hj
      have hR : refC true l s c (j + 1) = (decide ((way l s).toNat ≤ j + 1) && c (j + 1 - (way l s).toNat)) := by
        simp only [refC, if_pos c1]
        rw [if_neg (by simp)]
        unfold upd shiftTo
        rw [if_neg (by omega), if_pos (by omega)]
      rw [hR]
      by_cases c2 : 32 < way l s
      · have e1 : decide ((way l s).toNat ≤ j + 1) = false := by simp; omega
        rw [e1]
        simp [noteM, c2]
      · have hM : noteM true l s m = (m * 2 ^ (way l s).toNat) % 2 ^ 32 ||| bitN (way l s) := by
          unfold noteM; rw [if_neg (by simp), if_neg c2, if_pos c1]
        rw [hM, Nat.testBit_or, Nat.testBit_mod_two_pow, Nat.testBit_mul_two_pow, bitN, Nat.testBit_two_pow]
        generalize hdd : (way l s).toNat = d
        have hd1 : 1 ≤ d := by omega
        by_cases e1 : d - 1 = j
        · have e2 : j + 1 - d = 0 := by omega
          have e3 : d ≤ j + 1 := by omega
          rw [e2, h0]; simp [e1, e3]
        · by_cases e2 : d ≤ j
          · have e3 : j + 1 - d = (j - d) + 1 := by omega
            have e4 : d ≤ j + 1 := by omega
            rw [e3, ← hc (j - d) (by omega)]
            simp [e1, e2, e4, hj]
          · have e4 : ¬ d ≤ j + 1 := by omega
            have e5 : ¬ j + 1 = d := by omega
            simp [e1, e2, e4]
    · have hL : noteL true l s = l := by simp [noteL, c1]
      have n0 : ¬ 32 < way l s := by omega
      by_cases c2 : way l s < -32
      · have n2 : ¬ way l s = 0 := by omega
        have hM : noteM true l s m = m := by
          unfold noteM; rw [if_neg (by simp), if_neg n0, if_neg c1, if_neg n2, if_pos c2]
        have hR : refC true l s c = c := by simp [refC, c1, c2]
        rw [hL, hM, hR]
        exact ⟨⟨⟨l0, l1⟩, hm, hc, h0, by simp⟩, by intros; omega⟩
      · have hR : refC true l s c = upd c (-way l s).toNat true := by simp [refC, c1, c2]
        rw [hL, hR]
        by_cases c3 : way l s = 0
        · have hM : noteM true l s m = m := by
            unfold noteM; rw [if_neg (by simp), if_neg n0, if_neg c1, if_pos c3]
          rw [hM, c3]
          refine ⟨⟨⟨l0, l1⟩, hm, fun j hj => by simp [upd, hc j hj], by simp [upd], by simp⟩, fun _ _ _ => ?_⟩
          have hB : noteB true l s m = false := by simp [noteB, c3]
          rw [hB]; simpa using h0
        · have hM : noteM true l s m = m ||| bitN (-way l s) := by
            unfold noteM; rw [if_neg (by simp), if_neg n0, if_neg c1, if_neg c3, if_neg c2]
          have hB : noteB true l s m = !(m.testBit ((-way l s).toNat - 1)) := by
            unfold noteB; rw [if_neg (by simp), if_neg c1, if_neg c3, if_neg c2]
          rw [hM, hB, bitN]
          generalize hdd : (-way l s).toNat = d
          have hd1 : 1 ≤ d := by omega
          have hd2 : d ≤ 32 := by omega
          refine ⟨⟨⟨l0, l1⟩, ?_, ?_, ?_, by simp⟩, fun _ _ _ => ?_⟩
          · exact Nat.or_lt_two_pow hm (Nat.pow_lt_pow_right (by omega) (by omega))
          · intro j hj
            rw [Nat.testBit_or, Nat.testBit_two_pow, hc j hj]
            unfold upd
            by_cases e1 : d - 1 = j
            · have : j + 1 = d := by omega
              simp [e1, this]
            · have : ¬ j + 1 = d := by omega
              simp [e1, this]
          · unfold upd; rw [if_neg (by omega)]; exact h0
          · rw [hc (d - 1) (by omega), Bool.not_not]; congr 1; omega

/-- The reference's Note, at what the program's Heard tells. -/
theorem rnote_any (b : Nat) (is : Bool) (l s : Int) (m : Nat) (c : Nat → Bool) (w : World) (h : RefAt w b is l c) (hb : b < w.heap.size) (hs : SameHeard is l m c) (s0 : 0 ≤ s) (s1 : s ≤ 65535) :
    Calls Try.prog 17 #[.pointer (some ⟨b, 0, none⟩), .int .u16 s] w fun e w' => e = .returned (.bool (noteB is l s m)) ∧ RefAt w' b true (noteL is l s) (refC is l s c) ∧ Keep b w w' := by
  have hst := (same_step is l s m c hs s0 s1).2
  obtain ⟨⟨l0, l1⟩, hm, hc, h0, hi⟩ := hs
  cases is with
  | false =>
    refine (rnote_1 b l s c w h).mono fun e w' ⟨h1, h2, h3⟩ => ⟨by simpa [noteB] using h1, by simpa [noteL, refC] using h2, h3.keep⟩
  | true =>
    by_cases c1 : 0 < way l s
    · exact (rnote_2 b l s c w h hb l0 l1 s0 s1 c1).mono fun e w' ⟨h1, h2, h3⟩ => ⟨by simpa [noteB, c1] using h1, by simpa [noteL, refC, c1] using h2, h3⟩
    · by_cases c2 : way l s < -32
      · have n2 : ¬ way l s = 0 := by omega
        have hB : noteB true l s m = false := by
          unfold noteB; rw [if_neg (by simp), if_neg c1, if_neg n2, if_pos c2]
        refine (rnote_3 b l s c w h l0 l1 s0 s1 c2).mono fun e w' ⟨h1, h2⟩ => ?_
        subst h2
        refine ⟨by rw [hB]; exact h1, by simpa [noteL, refC, c1, c2] using h, Keep.refl _ _⟩
      · have hcc := hst rfl (by omega) (by omega)
        cases hB : noteB true l s m with
        | false =>
          rw [hB] at hcc
          refine (rnote_4 b l s c w h l0 l1 s0 s1 (by omega) (by omega) hcc).mono fun e w' ⟨h1, h2⟩ => ?_
          subst h2
          have e1 : upd c (-way l s).toNat true = c := by
            funext j; unfold upd; split
            · rename_i e; rw [e, hcc]; rfl
            · rfl
          refine ⟨h1, by simpa [noteL, refC, c1, c2, e1] using h, Keep.refl _ _⟩
        | true =>
          rw [hB] at hcc
          exact (rnote_5 b l s c w h l0 l1 s0 s1 (by omega) (by omega) hcc).mono fun e w' ⟨h1, h2, h3⟩ => ⟨h1, by simpa [noteL, refC, c1, c2] using h2, h3.keep⟩

theorem Keep.heard {w w' : World} {b b' : Nat} {is : Bool} {l m : Int} (h : HeardAt w b is l m) (k : Keep b' w w') (hb : b ≠ b') (hs : b < w.heap.size) : HeardAt w' b is l m :=
  ⟨(k.cell (p := ⟨b, 0, none⟩) hb hs).trans h.c0, (k.cell (p := ⟨b, 1, none⟩) hb hs).trans h.c1, (k.cell (p := ⟨b, 2, none⟩) hb hs).trans h.c2,
   (k.frozen (p := ⟨b, 0, none⟩) hb hs).trans h.f0, (k.frozen (p := ⟨b, 1, none⟩) hb hs).trans h.f1, (k.frozen (p := ⟨b, 2, none⟩) hb hs).trans h.f2⟩
theorem RefAt.only {w w' : World} {b b' : Nat} {is : Bool} {l : Int} {c : Nat → Bool} (h : RefAt w b is l c) (k : Only b' w w') (hb : b ≠ b') : RefAt w' b is l c :=
  ⟨(k.cell (p := ⟨b, 0, none⟩) hb).trans h.c0, (k.cell (p := ⟨b, 1, none⟩) hb).trans h.c1, (k.frozen (p := ⟨b, 0, none⟩) hb).trans h.f0, (k.frozen (p := ⟨b, 1, none⟩) hb).trans h.f1, h.came.only k hb⟩

/-- The round's facts. -/
def NotesW (B C : Nat) (w wr : World) : Prop :=
  ∃ is l, ∃ m : Nat, ∃ c : Nat → Bool, HeardAt wr B is l m ∧ RefAt wr C is l c ∧ Below B w wr ∧ C < wr.heap.size ∧ SameHeard is l m c

theorem beq_self_false (a : Bool) : (a != a) = false := by simp

set_option maxHeartbeats 400000 in
theorem law_SerialNotes (a0 : Int) (a1 : Option Addr) (len1 cap1 : Nat) (z1 : List Int) (w : World) (w0 : (Lit.int .u16 a0).wf = true) (w1 : IsRow .i64 w a1 len1 cap1 z1) :
    Calls Try.prog 4 #[.int .u16 a0, .slice a1 len1 cap1] w fun e w' => e = .returned (.bool true) ∧ Below w.heap.size w w' := by
  obtain ⟨a00, a01⟩ := u16_bd w0
  have hel := fun h => w1.elem h
  have hle := w1.len_le
  unfold maxLen at hle
  clear w0 w1
  have Hel := Lib.hid hel
  clear hel
  generalize hB0 : w.heap.size = B
  have HB := Lib.hid hB0
  clear hB0
  by_cases hlen : 200 < len1
  · go_enter Try.func4, Try.ntmps4
    go_wp2_with fail
    refine new_named w ?_
    intro b x1 hb hn hB hs
    obtain rfl : B = b := HB.out.symm.trans hb
    clear hb
    go_wp2_with fail
    refine (told_law _).mono ?_
    rintro e x5 ⟨rfl, hB5⟩
    have hB5' : Below B w x5 := hB.trans (hB5.mono (by omega))
    go_wp2_with fail
    go_ret
    exact ⟨rfl, hB5'⟩
  · go_enter Try.func4, Try.ntmps4
    go_wp2_with fail
    refine new_named w ?_
    intro b x1 hb hn hB hs
    obtain rfl : B = b := HB.out.symm.trans hb
    clear hb
    go_wp2_with fail
    generalize hx2 : x1.alloc _ = x2
    have hr : RefAt x2 x1.heap.size false 0 (fun _ => false) := by
      rw [← hx2]
      refine ⟨by simp, by simp, by simp, by simp, ?_⟩
      constructor
      · intro k hk
        rw [World.cell?_alloc_new]
        show (Value.bool false :: Value.int IntKind.u16 0 :: List.replicate 33 (Value.bool false)).toArray[2 + k]? = _
        rw [List.getElem?_toArray, show 2 + k = k + 1 + 1 by omega, List.getElem?_cons_succ, List.getElem?_cons_succ, List.getElem?_replicate, if_pos hk]
      · intro k hk
        rw [World.frozen?_alloc_new]
    have hh : HeardAt x2 B false 0 (0 : Nat) := by rw [← hx2]; exact hn.alloc _ hs
    have hB2 : Below B w x2 := by rw [← hx2]; exact hB.alloc (by omega) _
    have hs2 : x1.heap.size < x2.heap.size := by rw [← hx2]; simp
    clear hn hB hx2
    generalize x1.heap.size = C at *
    have hne : B ≠ C := by omega
    have hne' : C ≠ B := by omega
    go_loopw [7, 8] (fun x i wr => ∃ n : Nat, ∃ s : Int, 0 ≤ s ∧ s ≤ 65535 ∧ n ≤ len1 ∧ i = .int .i64 n ∧ x = .int .u16 s ∧ NotesW B C w wr) (fun _ i _ => len1 - (intOf i).toNat)
    case atStart => exact ⟨0, a0, a00, a01, by omega, rfl, rfl, false, 0, 0, _, hh, hr, hB2, hs2, ⟨by omega, by omega⟩, by decide, fun _ _ => by simp, rfl, fun _ => rfl⟩
    case round =>
      obtain ⟨n, s, hs0, hs1, hn1, rfl, rfl, is, l, m, c, h1, hr1, hB1, hC1, hst⟩ := hrel
      clear hh hr hB2 hs2
      by_cases hlt : n < len1
      · obtain ⟨b, o, rfl, hbl, hcell, hwf⟩ := Hel.out (by omega)
        have hc := hcell n hlt
        clear hcell hwf
        generalize z1.getD n 0 = x at *
        have hc' : wr.cell? ⟨b, o + n, none⟩ = some (.int .i64 x) := (hB1.cell (p := ⟨b, o + n, none⟩) (by rw [← HB.out]; exact hbl)).trans hc
        clear hc
        have hm := hst.2.1
        have HM := Lib.hid hm
        have HS := Lib.hid hst
        clear hm hst
        go_wp2_with fail
        obtain ⟨s', hs', t0, t1⟩ : ∃ s', IntKind.u16.wrap (s + IntKind.u16.wrap x) = s' ∧ 0 ≤ s' ∧ s' ≤ 65535 := ⟨_, rfl, by rw [wrap_u16]; omega, by rw [wrap_u16]; omega⟩
        rw [hs']
        clear hs' hc'
        have hss := (same_step is l s' m c HS.out t0 t1).1
        have Hss := Lib.hid hss
        clear hss
        refine (note_any B is l s' m HM.out _ h1).mono ?_
        rintro e x3 ⟨rfl, h3, o3⟩
        have r3 := hr1.only o3 hne'
        have z3 : C < x3.heap.size := by rw [o3.size]; exact hC1
        have hB3 : Below B w x3 := hB1.trans (o3.below (Nat.le_refl _))
        clear h1 hr1 o3 hC1 hB1
        go_wp2_with fail
        refine (rnote_any C is l s' m c x3 r3 z3 HS.out t0 t1).mono ?_
        rintro e x4 ⟨rfl, r4, k4⟩
        have h4 := k4.heard h3 hne (by omega)
        have z4 : C < x4.heap.size := by have := k4.size; omega
        have hB4 : Below B w x4 := hB3.trans (k4.below (by omega) (by omega))
        have e4 := beq_self_false (noteB is l s' m)
        clear h3 r3 z3 k4 hB3
        generalize noteL is l s' = L at *
        generalize noteM is l s' m = M at *
        generalize refC is l s' c = c' at *
        go_wp2_with fail
        clear e4
        refine (last_any B true L M _ h4).mono ?_
        rintro e x5 ⟨rfl, n5, rfl⟩
        have h5 := h4.drewN n5
        have r5 : RefAt (x4.drewN n5) C true L c' := ⟨r4.c0, r4.c1, r4.f0, r4.f1, ⟨r4.came.cell, r4.came.frozen⟩⟩
        have z5 : C < (x4.drewN n5).heap.size := z4
        have hB5 : Below B w (x4.drewN n5) := hB4.trans ⟨rfl, rfl, rfl, Nat.le_refl _, fun _ _ => rfl⟩
        clear h4 r4 z4 hB4
        generalize x4.drewN n5 = x5 at *
        go_wp2_with fail
        refine (rlast_any C true L c' x5 r5).mono ?_
        rintro e w' ⟨⟨m', rfl, hm1, hm2⟩, rfl⟩
        obtain rfl : M = m' := by
          apply Nat.eq_of_testBit_eq
          intro j
          rw [hm2]
          by_cases hj : j < 32
          · rw [Hss.out.2.2.1 j hj]; simp [hj]
          · rw [high_bits Hss.out.2.1 j (by omega)]; simp [hj]
        clear hm1 hm2
        have hrel : NotesW B C w x5 := ⟨true, L, M, c', h5, r5, hB5, z5, Hss.out⟩
        have e5 : (L != L) = false := by simp
        have e6 : ((M : Int) != (M : Int)) = false := by simp
        clear h5 r5 z5 hB5
        go_wp2_with fail
        all_goals first | exact ⟨⟨n + 1, s', t0, t1, by omega, by go_num, rfl, hrel⟩, by simp [intOf]; omega⟩ | exact ⟨n + 1, s', t0, t1, by omega, by go_num, rfl, hrel⟩ | (simp [intOf]; omega) | go_roundw
      · go_wp2_with fail
        refine (told_law _).mono ?_
        rintro e x5 ⟨rfl, hB5⟩
        have hB5' : Below B w x5 := hB1.trans (hB5.mono (by have := hB1.size; have := HB.out; omega))
        go_wp2_with fail
        go_ret
        exact ⟨rfl, hB5'⟩
end Go.Proofs.Ytbafmgjdfbdkkaa
