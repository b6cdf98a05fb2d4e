/-
  Entry: what the reference's GetEntry accepts, in plain words.
-/
import Derived.Test.YtmhgkkfeohaojaaZB
namespace Go.Proofs.Ytmhgkkfeohaojaa
set_option linter.unusedVariables false
open Go.ChangeShapes Go.WideShapes Go.ChangeAt Go.RowKit

theorem zz_put_ev (fr : Int) (n : Nat) (E : Nat → Nat → Int) (I : Nat → Int) (i j : Nat) (hi : i < n) (hj : j < 5) : zz (putB fr n E I) (5 + 5 * i + j) = zz (ev5 E i) j := by
  unfold putB putS
  rw [zz_app_r _ _ _ (5 * i + j) (by show _ = 5 + _; omega), zz_app_l _ _ _ (by rw [evsB_len]; omega), zz_evsB E j hj n i hi]
theorem zz_put_inp (fr : Int) (n : Nat) (E : Nat → Nat → Int) (I : Nat → Int) (M t r : Nat) (hM : ∀ t, t < 8 → M.testBit t = inpNZ I t) (ht : t < 8) (hb : M.testBit t = true) (hr : r < 3) : zz (putB fr n E I) (6 + 5 * n + 3 * gcnt M t + r) = zz (inp3 I t) r := by
  unfold putB putS
  rw [zz_app_r _ _ _ (5 * n + (3 * gcnt M t + r) + 1) (by show _ = 5 + _; omega), zz_app_r _ _ _ (3 * gcnt M t + r + 1) (by rw [evsB_len]; omega), zz_cons]
  exact zz_inpsB I M r hr 8 t hM ht (by rw [← hM t ht]; exact hb)
theorem gcnt_slot (M : Nat) : ∀ s c, c < gcnt M s → ∃ t, t < s ∧ M.testBit t = true ∧ gcnt M t = c
  | 0, c, h => by simp [gcnt] at h
  | s + 1, c, h => by
    by_cases hb : M.testBit s = true
    · rw [gcnt_yes _ _ hb] at h
      by_cases e : c = gcnt M s
      · exact ⟨s, by omega, hb, e.symm⟩
      · obtain ⟨t, h1, h2, h3⟩ := gcnt_slot M s c (by omega)
        exact ⟨t, by omega, h2, h3⟩
    · rw [Bool.not_eq_true] at hb
      rw [gcnt_no _ _ hb] at h
      obtain ⟨t, h1, h2, h3⟩ := gcnt_slot M s c h
      exact ⟨t, by omega, h2, h3⟩
theorem nz_bit (bs : List Int) (t : Nat) (h : inpNZ (gI bs) t = true) : (gM bs).testBit t = true := by
  apply Classical.byContradiction
  intro hb
  have z : ∀ r, r < 3 → gI bs (t * 3 + r) = 0 := fun r hr => by
    unfold gI
    rw [show (t * 3 + r) / 3 = t by omega, if_neg hb]
  have z0 := z 0 (by omega)
  unfold inpNZ at h
  rw [z 1 (by omega), z 2 (by omega), show t * 3 = t * 3 + 0 by omega, z0] at h
  cases h
theorem inpsB_lt (I : Nat → Int) (M : Nat) : ∀ s, (∀ t, t < s → inpNZ I t = true → M.testBit t = true) → ∀ t0, t0 < s → M.testBit t0 = true → inpNZ I t0 = false → (inpsB I s).length < 3 * gcnt M s
  | 0, _, t0, h0, _, _ => by omega
  | s + 1, h, t0, h0, hb, hn => by
    by_cases e : t0 = s
    · subst e
      have := inpsB_le I M t0 (fun t ht => h t (by omega))
      have e : inpsB I (t0 + 1) = inpsB I t0 := by show (if inpNZ I t0 then _ else _) = _; rw [if_neg (by simp [hn])]
      rw [e, gcnt_yes _ _ hb]
      omega
    · have ih := inpsB_lt I M s (fun t ht => h t (by omega)) t0 (by omega) hb hn
      by_cases hs : inpNZ I s = true
      · have e : inpsB I (s + 1) = inpsB I s ++ inp3 I s := by show (if inpNZ I s then _ else _) = _; rw [if_pos hs]
        rw [e, List.length_append, gcnt_yes _ _ (h s (by omega) hs)]
        show _ + 3 < _
        omega
      · have e : inpsB I (s + 1) = inpsB I s := by show (if inpNZ I s then _ else _) = _; rw [if_neg hs]
        have := gcnt_mono M s (s + 1) (by omega)
        rw [e]
        omega
theorem ok_nz {bs : List Int} (h : OkG bs) (t : Nat) (ht : t < 8) (hb : (gM bs).testBit t = true) : inpNZ (gI bs) t = true := by
  apply Classical.byContradiction
  intro hn
  rw [Bool.not_eq_true] at hn
  have h1 := ok_tot h
  have h2 : (putB (gFr bs) (gN bs) (gE bs) (gI bs)).length = bs.length := by rw [h.2.2]
  unfold putB at h2
  rw [putS_len] at h2
  have := inpsB_lt (gI bs) (gM bs) 8 (fun t _ => nz_bit bs t) t ht hb hn
  unfold gTot at h1
  omega
theorem sgn_mod (x : Int) (h : 0 ≤ x ∧ x < 256) : sgn x % 256 = x := by unfold sgn; split <;> omega
theorem ok_of {bs : List Int} (hby : ByteL bs) (ht : gTot bs = bs.length) (hm : mayE (gFr bs) (gN bs) (gE bs) (gI bs) = true) (hnz : ∀ t, t < 8 → (gM bs).testBit t = true → inpNZ (gI bs) t = true) : OkG bs := by
  have hM : ∀ t, t < 8 → (gM bs).testBit t = inpNZ (gI bs) t := fun t h => by
    rw [Bool.eq_iff_iff]
    exact ⟨hnz t h, nz_bit bs t⟩
  have hcnt := inpsB_cnt (gI bs) (gM bs) 8 hM
  have hlen : (putB (gFr bs) (gN bs) (gE bs) (gI bs)).length = bs.length := by
    rw [← ht]
    unfold putB gTot
    rw [putS_len, hcnt]
  refine ⟨Nat.le_of_eq ht, hm, getD_eq_of hlen fun i hi => ?_⟩
  rw [hlen, ← ht] at hi
  show zz (putB _ _ _ _) i = zz bs i
  have b := hby i
  by_cases h5 : i < 5
  · have b0 := hby 0
    have b1 := hby 1
    have b2 := hby 2
    have b3 := hby 3
    have b4 := hby 4
    rcases (by omega : i = 0 ∨ i = 1 ∨ i = 2 ∨ i = 3 ∨ i = 4) with rfl | rfl | rfl | rfl | rfl
    · show gFr bs % 256 = _; unfold gFr; omega
    · show gFr bs / 256 % 256 = _; unfold gFr; omega
    · show gFr bs / 65536 % 256 = _; unfold gFr; omega
    · show gFr bs / 16777216 % 256 = _; unfold gFr; omega
    · show (gN bs : Int) % 256 = _; unfold gN; omega
  · by_cases hE : i < 5 + 5 * gN bs
    · obtain ⟨q, j, hq, hj, rfl⟩ : ∃ q j, q < gN bs ∧ j < 5 ∧ i = 5 + 5 * q + j := ⟨(i - 5) / 5, (i - 5) % 5, by omega, by omega, by omega⟩
      rw [zz_put_ev _ _ _ _ q j hq hj]
      have c0 := hby (5 + 5 * q)
      have c1 := hby (5 + 5 * q + 1)
      have c2 := hby (5 + 5 * q + 2)
      have c3 := hby (5 + 5 * q + 3)
      have c4 := hby (5 + 5 * q + 4)
      rcases (by omega : j = 0 ∨ j = 1 ∨ j = 2 ∨ j = 3 ∨ j = 4) with rfl | rfl | rfl | rfl | rfl
      · show zz bs (5 + 5 * q) % 256 = zz bs (5 + 5 * q); omega
      · show zz bs (5 + 5 * q + 1) % 256 = _; omega
      · show (zz bs (5 + 5 * q + 2) + zz bs (5 + 5 * q + 3) * 256) % 256 = _; omega
      · show (zz bs (5 + 5 * q + 2) + zz bs (5 + 5 * q + 3) * 256) / 256 % 256 = _; omega
      · show zz bs (5 + 5 * q + 4) % 256 = _; omega
    · by_cases hm5 : i = 5 + 5 * gN bs
      · subst hm5
        have h1 := putS_mask (gFr bs) (gN bs) (gE bs) (gI bs) 8
        have h2 : maskN (gI bs) 8 = gM bs := by
          apply Nat.eq_of_testBit_eq
          intro t
          by_cases h8 : t < 8
          · rw [mask_all _ _ h8, hM t h8]
          · have h3 : (maskN (gI bs) 8).testBit t = false := by rw [maskN_bit, decide_eq_false h8]; rfl
            rw [h3, Nat.testBit_lt_two_pow]
            exact Nat.lt_of_lt_of_le (gM_lt hby) (Nat.pow_le_pow_right (n := 2) (by omega) (show 8 ≤ t by omega))
        show (putS _ _ _ _ 8).getD _ 0 = _
        rw [h1, h2]
        unfold gM
        omega
      · unfold gTot at hi
        obtain ⟨t, ht8, hb, hc⟩ := gcnt_slot (gM bs) 8 ((i - 6 - 5 * gN bs) / 3) (by omega)
        obtain ⟨r, hr, e⟩ : ∃ r, r < 3 ∧ i = 6 + 5 * gN bs + 3 * gcnt (gM bs) t + r := ⟨(i - 6 - 5 * gN bs) % 3, by omega, by omega⟩
        subst e
        rw [zz_put_inp _ _ _ _ (gM bs) t r hM ht8 hb hr]
        have gI3 : ∀ r, r < 3 → gI bs (t * 3 + r) = if r = 2 then zz bs (6 + 5 * gN bs + 3 * gcnt (gM bs) t + r) else sgn (zz bs (6 + 5 * gN bs + 3 * gcnt (gM bs) t + r)) := fun r hr => by
          unfold gI
          rw [show (t * 3 + r) / 3 = t by omega, if_pos hb, show (t * 3 + r) % 3 = r by omega]
        rcases (by omega : r = 0 ∨ r = 1 ∨ r = 2) with rfl | rfl | rfl
        · show gI bs (t * 3) % 256 = _
          rw [show t * 3 = t * 3 + 0 by omega, gI3 0 (by omega), if_neg (by omega)]; exact sgn_mod _ b
        · show gI bs (t * 3 + 1) % 256 = _
          rw [gI3 1 (by omega), if_neg (by omega)]; exact sgn_mod _ b
        · show gI bs (t * 3 + 2) = _
          rw [gI3 2 (by omega), if_pos rfl]
end Go.Proofs.Ytmhgkkfeohaojaa
