/-
  Entry: EntryLong: an entry has six bytes, five for each event, three for each input that is not zero.
-/
import Derived.Test.YtmhgkkfeohaojaaN
namespace Go.Proofs.Ytmhgkkfeohaojaa
set_option linter.unusedVariables false
open Go.ChangeShapes Go.WideShapes Go.ChangeAt Go.RowKit

theorem evs_rank (E : Nat → Nat → Int) : ∀ n, evsOk E n = true → ∀ i, i < n → ((E i 0 = 1 ∨ E i 0 = 2) ∧ 0 ≤ E i 1 ∧ E i 1 < 8 ∧ 1 ≤ E i 2 ∧ E i 2 ≤ 60000 ∧ 0 ≤ E i 3 ∧ E i 3 < 12) ∧ (i : Int) ≤ (2 - E i 0) * 8 + E i 1
  | 0, _, i, hi => by omega
  | n + 1, h, i, hi => by
    unfold evsOk at h
    rw [Bool.and_eq_true, Bool.and_eq_true] at h
    obtain ⟨h1, h2, h3⟩ := h
    have ih := evs_rank E n h1
    by_cases e : i = n
    · subst e
      have hm := (mayEv_iff _ _ _ _).1 h2
      refine ⟨hm, ?_⟩
      cases i with
      | zero => have := hm.1; omega
      | succ i =>
        have hp := (ih i (by omega))
        have h3' : wrongEv (E i 0) (E i 1) (E (i + 1) 0) (E (i + 1) 1) = false := by simpa using h3
        unfold wrongEv at h3'
        simp only [Bool.or_eq_false_iff, Bool.and_eq_false_iff, decide_eq_false_iff_not] at h3'
        have := hm.1
        have := hp.1.1
        have := hp.2
        omega
    · exact ih i (by omega)
theorem evsOk_le {E : Nat → Nat → Int} {n : Nat} (h : evsOk E n = true) : n ≤ 16 := by
  cases n with
  | zero => omega
  | succ n =>
    have := evs_rank E (n + 1) h n (by omega)
    omega
theorem mayE_le {fr : Int} {n : Nat} {E : Nat → Nat → Int} {I : Nat → Int} (h : mayE fr n E I = true) : n ≤ 16 := evsOk_le (mayE_parts h).2.1
set_option maxHeartbeats 2000000 in
theorem law_EntryLong (v0 : Value) (w : World) (w0 : IsEnt w v0) :
    Calls Try.prog 7 #[v0] w fun e w' => e = .returned (.bool true) ∧ Below w.heap.size w w' := by
  obtain ⟨fr, sv, n, E, I, rfl, hev, -⟩ := w0
  have HE := Lib.hid (entAt_new fr sv I 28 w)
  have HB := Lib.hid ((Below.refl w.heap.size w).alloc (Nat.le_refl _) (Obj.cells (entL fr sv I).toArray 28))
  have HV := Lib.hid (hev.below HB.out (Nat.le_refl _))
  have HV0 := Lib.hid hev
  clear hev
  go_enter Try.func7, Try.ntmps7
  go_wp2_with (refine wpList_load_g (by rfl) 28 _ rfl w.heap.size 0 rfl _ _ HE.out.range Try.underlying28 rfl (size_ent _ _ _) ?_)
  generalize w.alloc (Obj.cells (entL fr sv I).toArray 28) = w1 at *
  rcases hm : mayE fr n E I with _ | _
  · refine (put_no fr sv n E I w1 HV.out hm).mono ?_
    rintro e w2 ⟨rfl, hb2⟩
    replace HB := Lib.hid (HB.out.trans (hb2.mono HB.out.size))
    clear hb2 HE HV
    go_wp2_with fail
    refine (told_law _).mono ?_
    rintro e w3 ⟨rfl, hb3⟩
    replace HB := Lib.hid (HB.out.trans (hb3.mono HB.out.size))
    clear hb3
    go_wp2_with fail
    go_ret
    exact ⟨rfl, HB.out⟩
  · have hn16 := mayE_le hm
    refine (put_yes fr sv n E I w1 HV.out (by omega) hm).mono ?_
    rintro e w2 ⟨⟨v, rfl, hO⟩, hb2⟩
    obtain ⟨g, cp, rfl, -⟩ := hO.form (by have := putB_pos fr n E I; omega)
    have HL : Hid ((putB fr n E I).length = 6 + 5 * n + (inpsB I 8).length) := Lib.hid (putS_len fr n E I 8)
    have HLe := Lib.hid (inpsB_len I)
    replace HB := Lib.hid (HB.out.trans (hb2.mono HB.out.size))
    replace HE := Lib.hid (HE.out.block (hb2.block _ HE.out.lt))
    obtain ⟨a, cap, hsv, -⟩ := HV0.out
    subst hsv
    have c1 := HE.out.z1
    clear hb2 HV hm hO
    generalize (putB fr n E I).length = L at *
    go_wp2_with fail
    go_loopw [5, 6] (fun c i wr => ∃ s : Nat, s ≤ 8 ∧ i = .int .i64 s ∧ c = .int .i64 (6 + 5 * n + (inpsB I s).length : Nat) ∧ EntAt wr w.heap.size 0 fr (.slice a n cap) I ∧ Below w.heap.size w wr) (fun _ i _ => 8 - (intOf i).toNat)
    case atStart => exact ⟨0, by omega, rfl, by go_num, HE.out, HB.out⟩
    case round =>
      obtain ⟨s, hs, rfl, rfl, hE, hB⟩ := hrel
      clear HE HB c1
      have HE := Lib.hid hE
      have HB := Lib.hid hB
      clear hB
      by_cases hlt : s < 8
      · have d0 := hE.inps.x s hlt
        have d1 := hE.inps.y s hlt
        have d2 := hE.inps.z s hlt
        have hle := HLe.out s
        have HNZ : Hid (inpNZ I s = !(I (s * 3) == 0 && (I (s * 3 + 1) == 0 && I (s * 3 + 2) == 0))) := Lib.hid rfl
        have HY : Hid (inpNZ I s = true → (inpsB I (s + 1)).length = (inpsB I s).length + 3) := Lib.hid (fun h => by
          show (if inpNZ I s then _ else _ : List Int).length = _; rw [if_pos h, List.length_append]; rfl)
        have HN : Hid (inpNZ I s = false → (inpsB I (s + 1)).length = (inpsB I s).length) := Lib.hid (fun h => by
          show (if inpNZ I s then _ else _ : List Int).length = _; rw [if_neg (by simp [h])])
        clear hE
        generalize I (s * 3) = x at *
        generalize I (s * 3 + 1) = y at *
        generalize I (s * 3 + 2) = z at *
        rcases hx : (x == 0) with _ | _
        · have hl := HY.out (by rw [HNZ.out, hx]; rfl)
          have HLn := Lib.hid hl
          clear hl HNZ HY HN
          go_wp2_with fail
          exact ⟨⟨s + 1, by omega, rfl, by rw [HLn.out]; go_num, HE.out, HB.out⟩, by show 8 - (s + 1) < 8 - s; omega⟩
        obtain rfl := eq_of_beq hx
        rcases hy : (y == 0) with _ | _
        · have hl := HY.out (by rw [HNZ.out, hy]; rfl)
          have HLn := Lib.hid hl
          clear hl HNZ HY HN
          go_wp2_with fail
          exact ⟨⟨s + 1, by omega, rfl, by rw [HLn.out]; go_num, HE.out, HB.out⟩, by show 8 - (s + 1) < 8 - s; omega⟩
        obtain rfl := eq_of_beq hy
        rcases hz : (z == 0) with _ | _
        · have hl := HY.out (by rw [HNZ.out, hz]; rfl)
          have HLn := Lib.hid hl
          clear hl HNZ HY HN
          go_wp2_with fail
          exact ⟨⟨s + 1, by omega, rfl, by rw [HLn.out]; go_num, HE.out, HB.out⟩, by show 8 - (s + 1) < 8 - s; omega⟩
        obtain rfl := eq_of_beq hz
        have hl := HN.out (by rw [HNZ.out]; rfl)
        have HLn := Lib.hid hl
        clear hl HNZ HY HN
        go_wp2_with fail
        exact ⟨⟨s + 1, by omega, rfl, by rw [HLn.out], HE.out, HB.out⟩, by show 8 - (s + 1) < 8 - s; omega⟩
      · obtain rfl : s = 8 := by omega
        clear hE
        go_wp2_with fail
        refine (told_law _).mono ?_
        rintro e w3 ⟨rfl, hb3⟩
        replace HB := Lib.hid (HB.out.trans (hb3.mono HB.out.size))
        clear hb3 HE
        have hb : ((L : Int) == ((6 + 5 * n + (inpsB I 8).length : Nat) : Int)) = true := by rw [HL.out]; simp
        go_wp2_with fail
        go_ret
        exact ⟨by simp [HL.out], HB.out⟩
end Go.Proofs.Ytmhgkkfeohaojaa
