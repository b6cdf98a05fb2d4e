/-
  Entry: EntryLong: an entry has six bytes, five for each event, three for each input that is not zero. Entry: an entry comes back from its bytes, in plain words. Entry: the reference's Num, PutInput.
-/
import Derived.Test.YtembppihfcclcaaG05x
import Derived.Test.YtembppihfcclcaaR
namespace Go.Proofs.Ytembppihfcclcaa
set_option linter.unusedVariables false
open Go.ChangeShapes Go.WideShapes Go.ChangeAt Go.RowKit

theorem evs_rank (E : Nat → Nat → Int) : ∀ n, evsOk E n = true → ∀ i, i < n → ((E i 0 = 1 ∨ E i 0 = 2) ∧ 0 ≤ E i 1 ∧ E i 1 < 8 ∧ 1 ≤ E i 2 ∧ E i 2 ≤ 60000 ∧ 0 ≤ E i 3 ∧ E i 3 < 12) ∧ (i : Int) ≤ (2 - E i 0) * 8 + E i 1
  | 0, _, i, hi => by omega
  | n + 1, h, i, hi => by
    unfold evsOk at h
    rw [Bool.and_eq_true, Bool.and_eq_true] at h
    obtain ⟨h1, h2, h3⟩ := h
    have ih := evs_rank E n h1
    by_cases e : i = n
    · subst e
      have hm := (mayEv_iff _ _ _ _).1 h2
      refine ⟨hm, ?_⟩
      cases i with
      | zero => have := hm.1; omega
      | succ i =>
        have hp := (ih i (by omega))
        have h3' : wrongEv (E i 0) (E i 1) (E (i + 1) 0) (E (i + 1) 1) = false := by simpa using h3
        unfold wrongEv at h3'
        simp only [Bool.or_eq_false_iff, Bool.and_eq_false_iff, decide_eq_false_iff_not] at h3'
        have := hm.1
        have := hp.1.1
        have := hp.2
        omega
    · exact ih i (by omega)
theorem evsOk_le {E : Nat → Nat → Int} {n : Nat} (h : evsOk E n = true) : n ≤ 16 := by
  cases n with
  | zero => omega
  | succ n =>
    have := evs_rank E (n + 1) h n (by omega)
    omega
theorem mayE_le {fr : Int} {n : Nat} {E : Nat → Nat → Int} {I : Nat → Int} (h : mayE fr n E I = true) : n ≤ 16 := evsOk_le (mayE_parts h).2.1
end Go.Proofs.Ytembppihfcclcaa

namespace Go.Proofs.Ytembppihfcclcaa
set_option linter.unusedVariables false
open Go.ChangeShapes Go.WideShapes Go.ChangeAt Go.RowKit

theorem zz_app_l (a b : List Int) (i : Nat) (h : i < a.length) : zz (a ++ b) i = zz a i := by
  unfold zz
  rw [List.getD_eq_getElem?_getD, List.getD_eq_getElem?_getD, List.getElem?_append_left h]
theorem zz_app_r (a b : List Int) (i j : Nat) (h : i = a.length + j) : zz (a ++ b) i = zz b j := by
  unfold zz
  rw [List.getD_eq_getElem?_getD, List.getD_eq_getElem?_getD, List.getElem?_append_right (by omega), show i - a.length = j by omega]
theorem zz_cons (x : Int) (b : List Int) (j : Nat) : zz (x :: b) (j + 1) = zz b j := by unfold zz; simp
theorem zz_evsB (E : Nat → Nat → Int) (j : Nat) (hj : j < 5) : ∀ n i, i < n → zz (evsB E n) (5 * i + j) = zz (ev5 E i) j
  | 0, i, h => by omega
  | n + 1, i, h => by
    show zz (evsB E n ++ ev5 E n) _ = _
    by_cases e : i = n
    · subst e
      rw [zz_app_r _ _ _ j (by rw [evsB_len])]
    · rw [zz_app_l _ _ _ (by rw [evsB_len]; omega)]
      exact zz_evsB E j hj n i (by omega)
theorem maskN_bit (I : Nat → Int) : ∀ s t, (maskN I s).testBit t = (decide (t < s) && inpNZ I t)
  | 0, t => by simp [maskN]
  | s + 1, t => by
    have h1 := maskN_bit I s t
    by_cases hn : inpNZ I s = true
    · have e : maskN I (s + 1) = maskN I s ||| 2 ^ s := by show (if inpNZ I s then _ else _) = _; rw [if_pos hn]
      rw [e, Nat.testBit_or, h1, Nat.testBit_two_pow]
      by_cases ht : s = t
      · subst ht; simp [hn]
      · have e2 : decide (t < s + 1) = decide (t < s) := by rw [decide_eq_decide]; omega
        rw [e2, decide_eq_false ht, Bool.or_false]
    · have e : maskN I (s + 1) = maskN I s := by show (if inpNZ I s then _ else _) = _; rw [if_neg hn]
      rw [e, h1]
      by_cases ht : s = t
      · subst ht; simp [hn]
      · have e2 : decide (t < s + 1) = decide (t < s) := by rw [decide_eq_decide]; omega
        rw [e2]
theorem inpsB_cnt (I : Nat → Int) (M : Nat) : ∀ s, (∀ t, t < s → M.testBit t = inpNZ I t) → (inpsB I s).length = 3 * gcnt M s
  | 0, _ => rfl
  | s + 1, h => by
    have ih := inpsB_cnt I M s (fun t ht => h t (by omega))
    have hs := h s (by omega)
    by_cases hn : inpNZ I s = true
    · rw [hn] at hs
      have e : inpsB I (s + 1) = inpsB I s ++ inp3 I s := by show (if inpNZ I s then _ else _) = _; rw [if_pos hn]
      rw [e, List.length_append, ih, gcnt_yes _ _ hs]
      show _ + 3 = _
      omega
    · rw [Bool.not_eq_true] at hn
      rw [hn] at hs
      have e : inpsB I (s + 1) = inpsB I s := by show (if inpNZ I s then _ else _) = _; rw [if_neg (by simp [hn])]
      rw [e, ih, gcnt_no _ _ hs]
theorem zz_inpsB (I : Nat → Int) (M r : Nat) (hr : r < 3) : ∀ s t, (∀ t, t < s → M.testBit t = inpNZ I t) → t < s → inpNZ I t = true → zz (inpsB I s) (3 * gcnt M t + r) = zz (inp3 I t) r
  | 0, t, _, h, _ => by omega
  | s + 1, t, hM, h, hn => by
    have hl := inpsB_cnt I M s (fun t ht => hM t (by omega))
    by_cases e : t = s
    · subst e
      have e : inpsB I (t + 1) = inpsB I t ++ inp3 I t := by show (if inpNZ I t then _ else _) = _; rw [if_pos hn]
      rw [e, zz_app_r _ _ _ r (by rw [hl])]
    · have ih := zz_inpsB I M r hr s t (fun t ht => hM t (by omega)) (by omega) hn
      have hb := hM t (by omega)
      rw [hn] at hb
      have h1 := gcnt_yes _ _ hb
      have h2 := gcnt_mono M (t + 1) s (by omega)
      by_cases hs : inpNZ I s = true
      · have e : inpsB I (s + 1) = inpsB I s ++ inp3 I s := by show (if inpNZ I s then _ else _) = _; rw [if_pos hs]
        rw [e, zz_app_l _ _ _ (by rw [hl]; omega), ih]
      · have e : inpsB I (s + 1) = inpsB I s := by show (if inpNZ I s then _ else _) = _; rw [if_neg hs]
        rw [e, ih]
section
variable {fr : Int} {n : Nat} {E : Nat → Nat → Int} {I : Nat → Int}
theorem put_fr (hm : mayE fr n E I = true) : gFr (putB fr n E I) = fr := by
  have h := (mayE_parts hm).1
  show fr % 256 + fr / 256 % 256 * 256 + fr / 65536 % 256 * 65536 + fr / 16777216 % 256 * 16777216 = fr
  omega
theorem put_n (hm : mayE fr n E I = true) : gN (putB fr n E I) = n := by
  have h := mayE_le hm
  show ((n : Int) % 256).toNat = n
  omega
theorem put_M (hm : mayE fr n E I = true) : gM (putB fr n E I) = maskN I 8 := by
  unfold gM
  rw [put_n hm]
  have := putS_mask fr n E I 8
  unfold zz putB
  rw [this]
  rfl
theorem put_E (hm : mayE fr n E I = true) (i : Nat) (hi : i < n) : gE (putB fr n E I) i 0 = E i 0 ∧ gE (putB fr n E I) i 1 = E i 1 ∧ gE (putB fr n E I) i 2 = E i 2 ∧ gE (putB fr n E I) i 3 = E i 3 := by
  have hr := (evs_rank E n (mayE_parts hm).2.1 i hi).1
  have key : ∀ j, j < 5 → zz (putB fr n E I) (5 + 5 * i + j) = zz (ev5 E i) j := fun j hj => by
    unfold putB putS
    rw [zz_app_r _ _ _ (5 * i + j) (by show _ = 5 + _; omega), zz_app_l _ _ _ (by rw [evsB_len]; omega), zz_evsB E j hj n i hi]
  have k0 : zz (putB fr n E I) (5 + 5 * i) = E i 0 % 256 := key 0 (by omega)
  have k1 : zz (putB fr n E I) (5 + 5 * i + 1) = E i 1 % 256 := key 1 (by omega)
  have k2 : zz (putB fr n E I) (5 + 5 * i + 2) = E i 2 % 256 := key 2 (by omega)
  have k3 : zz (putB fr n E I) (5 + 5 * i + 3) = E i 2 / 256 % 256 := key 3 (by omega)
  have k4 : zz (putB fr n E I) (5 + 5 * i + 4) = E i 3 % 256 := key 4 (by omega)
  refine ⟨?_, ?_, ?_, ?_⟩
  · show zz _ (5 + 5 * i) = _; rw [k0]; omega
  · show zz _ (5 + 5 * i + 1) = _; rw [k1]; omega
  · show zz _ (5 + 5 * i + 2) + zz _ (5 + 5 * i + 3) * 256 = _; rw [k2, k3]; omega
  · show zz _ (5 + 5 * i + 4) = _; rw [k4]; omega
theorem mask_all (I : Nat → Int) (t : Nat) (h : t < 8) : (maskN I 8).testBit t = inpNZ I t := by rw [maskN_bit, decide_eq_true h, Bool.true_and]
theorem put_I (hm : mayE fr n E I = true) (hb : EntB fr n E I) (k : Nat) (hk : k < 24) : gI (putB fr n E I) k = I k := by
  unfold gI
  rw [put_M hm, put_n hm, mask_all I _ (by omega)]
  by_cases hn : inpNZ I (k / 3) = true
  · rw [if_pos hn]
    have key : zz (putB fr n E I) (6 + 5 * n + 3 * gcnt (maskN I 8) (k / 3) + k % 3) = zz (inp3 I (k / 3)) (k % 3) := by
      unfold putB putS
      rw [zz_app_r _ _ _ (5 * n + (3 * gcnt (maskN I 8) (k / 3) + k % 3) + 1) (by show _ = 5 + _; omega), zz_app_r _ _ _ (3 * gcnt (maskN I 8) (k / 3) + k % 3 + 1) (by rw [evsB_len]; omega), zz_cons]
      exact zz_inpsB I _ _ (Nat.mod_lt _ (by omega)) 8 _ (fun t ht => mask_all I t ht) (by omega) hn
    rw [key]
    have hk3 : k / 3 * 3 + k % 3 = k := by omega
    rcases (by omega : k % 3 = 0 ∨ k % 3 = 1 ∨ k % 3 = 2) with e | e | e
    · have hx := hb.xy k hk (by omega)
      rw [if_neg (by omega), e]
      show sgn (I (k / 3 * 3) % 256) = I k
      rw [show k / 3 * 3 = k by omega]
      unfold sgn
      split <;> omega
    · have hx := hb.xy k hk (by omega)
      rw [if_neg (by omega), e]
      show sgn (I (k / 3 * 3 + 1) % 256) = I k
      rw [show k / 3 * 3 + 1 = k by omega]
      unfold sgn
      split <;> omega
    · rw [if_pos e, e]
      show I (k / 3 * 3 + 2) = I k
      rw [show k / 3 * 3 + 2 = k by omega]
  · rw [if_neg hn]
    unfold inpNZ at hn
    have hn : (I (k / 3 * 3) == 0 && (I (k / 3 * 3 + 1) == 0 && I (k / 3 * 3 + 2) == 0)) = true := by
      rcases h : (I (k / 3 * 3) == 0 && (I (k / 3 * 3 + 1) == 0 && I (k / 3 * 3 + 2) == 0)) with _ | _
      · rw [h] at hn; exact absurd rfl hn
      · rfl
    simp only [Bool.and_eq_true, beq_iff_eq] at hn
    obtain ⟨h0, h1, h2⟩ := hn
    rcases (by omega : k % 3 = 0 ∨ k % 3 = 1 ∨ k % 3 = 2) with e | e | e
    · rw [show k = k / 3 * 3 by omega]; exact h0.symm
    · rw [show k = k / 3 * 3 + 1 by omega]; exact h1.symm
    · rw [show k = k / 3 * 3 + 2 by omega]; exact h2.symm
theorem put_tot (hm : mayE fr n E I = true) : gTot (putB fr n E I) = (putB fr n E I).length := by
  unfold gTot
  rw [put_n hm, put_M hm, ← inpsB_cnt I (maskN I 8) 8 (fun t ht => mask_all I t ht)]
  unfold putB
  rw [putS_len]
end
theorem evsOk_congr {E E' : Nat → Nat → Int} : ∀ n, (∀ i, i < n → E i 0 = E' i 0 ∧ E i 1 = E' i 1 ∧ E i 2 = E' i 2 ∧ E i 3 = E' i 3) → evsOk E n = evsOk E' n
  | 0, _ => rfl
  | n + 1, h => by
    obtain ⟨h0, h1, h2, h3⟩ := h n (by omega)
    unfold evsOk
    rw [evsOk_congr n (fun i hi => h i (by omega)), h0, h1, h2, h3]
    cases n with
    | zero => rfl
    | succ n => 
      obtain ⟨g0, g1, -, -⟩ := h n (by omega)
      rw [show n + 1 - 1 = n by omega, g0, g1]
theorem inpAll_congr {I I' : Nat → Int} : ∀ n, (∀ k, k < 3 * n → I k = I' k) → inpAll I n = inpAll I' n
  | 0, _ => rfl
  | n + 1, h => by
    unfold inpAll
    rw [inpAll_congr n (fun k hk => h k (by omega)), h (n * 3) (by omega), h (n * 3 + 1) (by omega)]
theorem evsB_congr {E E' : Nat → Nat → Int} : ∀ n, (∀ i, i < n → E i 0 = E' i 0 ∧ E i 1 = E' i 1 ∧ E i 2 = E' i 2 ∧ E i 3 = E' i 3) → evsB E n = evsB E' n
  | 0, _ => rfl
  | n + 1, h => by
    obtain ⟨h0, h1, h2, h3⟩ := h n (by omega)
    unfold evsB ev5
    rw [evsB_congr n (fun i hi => h i (by omega)), h0, h1, h2, h3]
theorem inpNZ_congr {I I' : Nat → Int} (s : Nat) (h : ∀ k, k < 3 * (s + 1) → I k = I' k) : inpNZ I s = inpNZ I' s := by
  unfold inpNZ
  rw [h (s * 3) (by omega), h (s * 3 + 1) (by omega), h (s * 3 + 2) (by omega)]
theorem inpsB_congr {I I' : Nat → Int} : ∀ n, (∀ k, k < 3 * n → I k = I' k) → inpsB I n = inpsB I' n ∧ maskN I n = maskN I' n
  | 0, _ => ⟨rfl, rfl⟩
  | n + 1, h => by
    obtain ⟨h1, h2⟩ := inpsB_congr n (fun k hk => h k (by omega))
    unfold inpsB maskN inp3
    rw [h1, h2, inpNZ_congr n h, h (n * 3) (by omega), h (n * 3 + 1) (by omega), h (n * 3 + 2) (by omega)]
    exact ⟨rfl, rfl⟩
theorem putB_congr {fr fr' : Int} {n n' : Nat} {E E' : Nat → Nat → Int} {I I' : Nat → Int} (hf : fr = fr') (hn : n = n') (hE : ∀ i, i < n → E i 0 = E' i 0 ∧ E i 1 = E' i 1 ∧ E i 2 = E' i 2 ∧ E i 3 = E' i 3) (hI : ∀ k, k < 24 → I k = I' k) : putB fr n E I = putB fr' n' E' I' ∧ mayE fr n E I = mayE fr' n' E' I' ∧ sameB fr n E I fr' n' E' I' = true := by
  subst hf hn
  obtain ⟨h1, h2⟩ := inpsB_congr 8 hI
  refine ⟨?_, ?_, ?_⟩
  · unfold putB putS
    rw [evsB_congr n hE, h1, h2]
  · unfold mayE
    rw [evsOk_congr n hE, inpAll_congr 8 hI]
  · unfold sameB
    rw [(inpsEq_iff _ _).2 hI, (evsEq_iff _ _ _).2 hE, decide_eq_true rfl]
    simp
theorem sameB_iff {fr fr' : Int} {n n' : Nat} {E E' : Nat → Nat → Int} {I I' : Nat → Int} (h : sameB fr n E I fr' n' E' I' = true) : fr = fr' ∧ n = n' ∧ (∀ i, i < n → E i 0 = E' i 0 ∧ E i 1 = E' i 1 ∧ E i 2 = E' i 2 ∧ E i 3 = E' i 3) ∧ ∀ k, k < 24 → I k = I' k := by
  unfold sameB at h
  simp only [Bool.and_eq_true, beq_iff_eq, decide_eq_true_eq] at h
  exact ⟨h.1, h.2.2.1, (evsEq_iff _ _ _).1 h.2.2.2, (inpsEq_iff _ _).1 h.2.1⟩
/-- What Get reads of the bytes of an entry that may be is that entry. -/
theorem put_back {fr : Int} {n : Nat} {E : Nat → Nat → Int} {I : Nat → Int} (hm : mayE fr n E I = true) (hb : EntB fr n E I) : OkG (putB fr n E I) ∧ sameB (gFr (putB fr n E I)) (gN (putB fr n E I)) (gE (putB fr n E I)) (gI (putB fr n E I)) fr n E I = true := by
  obtain ⟨h1, h2, h3⟩ := putB_congr (E := gE (putB fr n E I)) (I := gI (putB fr n E I)) (put_fr hm) (put_n hm) (fun i hi => put_E hm i (by rwa [put_n hm] at hi)) (put_I hm hb)
  exact ⟨⟨Nat.le_of_eq (put_tot hm), h2.trans hm, h1⟩, h3⟩
theorem inpsB_le (I : Nat → Int) (M : Nat) : ∀ s, (∀ t, t < s → inpNZ I t = true → M.testBit t = true) → (inpsB I s).length ≤ 3 * gcnt M s
  | 0, _ => Nat.le_refl _
  | s + 1, h => by
    have ih := inpsB_le I M s (fun t ht => h t (by omega))
    by_cases hn : inpNZ I s = true
    · have e : inpsB I (s + 1) = inpsB I s ++ inp3 I s := by show (if inpNZ I s then _ else _) = _; rw [if_pos hn]
      rw [e, List.length_append, gcnt_yes _ _ (h s (by omega) hn)]
      show _ + 3 ≤ _
      omega
    · have e : inpsB I (s + 1) = inpsB I s := by show (if inpNZ I s then _ else _) = _; rw [if_neg hn]
      have := gcnt_mono M s (s + 1) (by omega)
      rw [e]
      omega
theorem ok_tot {bs : List Int} (h : OkG bs) : gTot bs = bs.length := by
  have h1 := h.1
  have h2 : (putB (gFr bs) (gN bs) (gE bs) (gI bs)).length = bs.length := by rw [h.2.2]
  unfold putB at h2
  rw [putS_len] at h2
  have h3 := inpsB_le (gI bs) (gM bs) 8 (fun t ht hn => by
    apply Classical.byContradiction
    intro hb
    have z : ∀ r, r < 3 → gI bs (t * 3 + r) = 0 := fun r hr => by
      unfold gI
      rw [show (t * 3 + r) / 3 = t by omega, if_neg hb]
    have z0 := z 0 (by omega)
    unfold inpNZ at hn
    rw [z 1 (by omega), z 2 (by omega), show t * 3 = t * 3 + 0 by omega, z0] at hn
    cases hn)
  unfold gTot at h1 ⊢
  omega
/-- Of two rows that both come back, one is no proper beginning of the other. -/
theorem ok_front {a b : List Int} (ha : OkG a) (hb : OkG b) (hz : ∀ i, i < a.length → zz a i = zz b i) : a.length = b.length := by
  have h1 := ok_tot ha
  have h2 := ok_tot hb
  have h6 : 6 + 5 * gN a ≤ a.length := by rw [← h1]; unfold gTot; omega
  have e4 : gN a = gN b := by unfold gN; rw [hz 4 (by omega)]
  have eM : gM a = gM b := by unfold gM; rw [← e4, hz _ (by omega)]
  rw [← h1, ← h2]
  unfold gTot
  rw [e4, eM]
theorem not_more {a : List Int} (ha : OkG a) (c : Int) : ¬ OkG (a ++ [c]) := fun h => by
  have := ok_front ha h (fun i hi => (zz_app_l a [c] i hi).symm)
  simp at this
theorem not_less {a : List Int} (ha : OkG a) (k : Nat) (hk : k < a.length) : ¬ OkG (a.take k) := fun h => by
  have := ok_front h ha (fun i hi => by
    rw [List.length_take] at hi
    unfold zz
    rw [List.getD_eq_getElem?_getD, List.getD_eq_getElem?_getD, List.getElem?_take, if_pos (by omega)])
  rw [List.length_take] at this
  omega
/-- Turned bytes that come back are the bytes of another entry. -/
theorem turned {fr : Int} {n : Nat} {E : Nat → Nat → Int} {I : Nat → Int} {t : List Int} (hm : mayE fr n E I = true) (hb : EntB fr n E I) (ht : OkG t) : sameB (gFr t) (gN t) (gE t) (gI t) fr n E I = decide (t = putB fr n E I) := by
  rw [Bool.eq_iff_iff, decide_eq_true_iff]
  constructor
  · intro h
    obtain ⟨h1, h2, h3, h4⟩ := sameB_iff h
    rw [← ht.2.2]
    exact (putB_congr h1 h2 h3 h4).1
  · intro h
    subst h
    exact (put_back hm hb).2
theorem byteL_iff {bs : List Int} : ByteL bs ↔ ∀ x ∈ bs, 0 ≤ x ∧ x < 256 := by
  constructor
  · intro h x hx
    obtain ⟨i, hi, e⟩ := List.getElem_of_mem hx
    have := h i
    unfold zz at this
    rw [List.getD_eq_getElem?_getD, List.getElem?_eq_getElem hi, e] at this
    exact this
  · intro h i
    unfold zz
    rw [List.getD_eq_getElem?_getD]
    cases e : bs[i]? with
    | none => exact ⟨by decide, by decide⟩
    | some x => exact h x (List.mem_of_getElem? e)
theorem ByteL.more {bs : List Int} (h : ByteL bs) {c : Int} (hc : 0 ≤ c ∧ c < 256) : ByteL (bs ++ [c]) := by
  rw [byteL_iff] at h ⊢
  intro x hx
  rcases List.mem_append.1 hx with hx | hx
  · exact h x hx
  · rw [List.mem_singleton] at hx; subst hx; exact hc
theorem ByteL.take {bs : List Int} (h : ByteL bs) (k : Nat) : ByteL (bs.take k) := by
  rw [byteL_iff] at h ⊢
  exact fun x hx => h x (List.mem_of_mem_take hx)
theorem ByteL.set {bs : List Int} (h : ByteL bs) (k : Nat) {c : Int} (hc : 0 ≤ c ∧ c < 256) : ByteL (bs.set k c) := by
  rw [byteL_iff] at h ⊢
  intro x hx
  rcases List.mem_or_eq_of_mem_set hx with hx | rfl
  · exact h x hx
  · exact hc
theorem evsB_by (E : Nat → Nat → Int) : ∀ n, ∀ x ∈ evsB E n, 0 ≤ x ∧ x < 256
  | 0, x, h => by cases h
  | n + 1, x, h => by
    rcases List.mem_append.1 (show x ∈ evsB E n ++ ev5 E n from h) with h | h
    · exact evsB_by E n x h
    · unfold ev5 at h
      simp only [List.mem_cons, List.not_mem_nil, or_false] at h
      rcases h with rfl | rfl | rfl | rfl | rfl <;> omega
theorem inpsB_by (I : Nat → Int) (hb : ∀ k, k < 24 → k % 3 = 2 → 0 ≤ I k ∧ I k ≤ 255) : ∀ s, s ≤ 8 → ∀ x ∈ inpsB I s, 0 ≤ x ∧ x < 256
  | 0, _, x, h => by cases h
  | s + 1, hs, x, h => by
    unfold inpsB at h
    split at h
    · rcases List.mem_append.1 h with h | h
      · exact inpsB_by I hb s (by omega) x h
      · unfold inp3 at h
        simp only [List.mem_cons, List.not_mem_nil, or_false] at h
        have := hb (s * 3 + 2) (by omega) (by omega)
        rcases h with rfl | rfl | rfl <;> omega
    · exact inpsB_by I hb s (by omega) x h
theorem put_by {fr : Int} {n : Nat} {E : Nat → Nat → Int} {I : Nat → Int} (hb : EntB fr n E I) : ByteL (putB fr n E I) := by
  rw [byteL_iff]
  intro x hx
  unfold putB putS at hx
  rcases List.mem_append.1 hx with h | h
  · unfold headB at h
    simp only [List.mem_cons, List.not_mem_nil, or_false] at h
    rcases h with rfl | rfl | rfl | rfl | rfl <;> omega
  · rcases List.mem_append.1 h with h | h
    · exact evsB_by E n x h
    · rcases List.mem_cons.1 h with rfl | h
      · have := maskN_lt I 8
        omega
      · exact inpsB_by I hb.b 8 (Nat.le_refl _) x h
theorem put_len {fr : Int} {n : Nat} {E : Nat → Nat → Int} {I : Nat → Int} (hm : mayE fr n E I = true) : 6 ≤ (putB fr n E I).length ∧ (putB fr n E I).length ≤ 200 := by
  have h1 := mayE_le hm
  have h2 := inpsB_len I 8
  unfold putB
  rw [putS_len]
  omega
theorem xor_u8 (a b : Int) (ha : 0 ≤ a ∧ a < 256) (hb : 0 ≤ b ∧ b < 256) : (0 ≤ bits .xor .u8 a b ∧ bits .xor .u8 a b < 256) ∧ (bits .xor .u8 a b = a ↔ b = 0) := by
  obtain ⟨x, rfl⟩ : ∃ x : Nat, a = x := ⟨a.toNat, by omega⟩
  obtain ⟨y, rfl⟩ : ∃ y : Nat, b = y := ⟨b.toNat, by omega⟩
  have hx : x < 2 ^ 8 := by omega
  have hy : y < 2 ^ 8 := by omega
  have hxy := Nat.xor_lt_two_pow hx hy
  have e : bits .xor .u8 (x : Int) (y : Int) = ((x ^^^ y : Nat) : Int) := by
    have h1 : x % 2 ^ IntKind.u8.bits = x := Nat.mod_eq_of_lt hx
    have h2 : y % 2 ^ IntKind.u8.bits = y := Nat.mod_eq_of_lt hy
    simp only [bits, BitVec.ofInt_natCast, BitVec.toNat_xor, BitVec.toNat_ofNat, h1, h2]
    generalize x ^^^ y = q at *
    simp [IntKind.wrap, IntKind.bits, IntKind.signed]
    omega
  rw [e]
  refine ⟨by omega, ?_⟩
  constructor
  · intro h
    have h' : x ^^^ y = x := by exact_mod_cast h
    have : x ^^^ (x ^^^ y) = x ^^^ x := by rw [h']
    rw [← Nat.xor_assoc, Nat.xor_self, Nat.zero_xor] at this
    omega
  · intro h
    have : y = 0 := by omega
    subst this
    rw [Nat.xor_zero]
theorem set_same_iff (bs : List Int) (k : Nat) (hk : k < bs.length) (z : Int) : bs.set k z = bs ↔ z = zz bs k := by
  constructor
  · intro h
    have := congrArg (fun l => l.getD k 0) h
    simp only [List.getD_eq_getElem?_getD, List.getElem?_set_self hk, Option.getD_some] at this
    rw [this]
    unfold zz
    rw [List.getD_eq_getElem?_getD]
  · intro h
    subst h
    apply List.ext_getElem (by simp)
    intro i h1 h2
    rw [List.getElem_set]
    split
    · next e => subst e; unfold zz; rw [List.getD_eq_getElem?_getD, List.getElem?_eq_getElem h2]; rfl
    · rfl
theorem cut_lt (u : Int) (n : Nat) (h0 : 0 ≤ u) (hn : 0 < n) (hn2 : n ≤ 1000) : ∃ k : Nat, k < n ∧ wrap64 (u % (n : Int)) = (k : Int) := by
  have h1 := Int.emod_nonneg u (show (n : Int) ≠ 0 by omega)
  have h2 := Int.emod_lt_of_pos u (show 0 < (n : Int) by omega)
  generalize u % (n : Int) = q at *
  refine ⟨q.toNat, by omega, ?_⟩
  unfold wrap64
  omega
theorem BytesV.front {w : World} {a : Option Addr} {n cap : Nat} {bs : List Int} (h : BytesV w (.slice a n cap) bs) (k : Nat) (hk : k ≤ bs.length) : BytesV w (.slice a k cap) (bs.take k) := by
  obtain ⟨a', cap', e, h1, h2, h3⟩ := h
  injection e with e1 e2 e3
  subst e1 e3
  have hl : (bs.take k).length = k := by rw [List.length_take]; omega
  refine ⟨_, _, by rw [hl], by omega, h2, fun h0 => ?_⟩
  obtain ⟨b, o, e, hb, hc⟩ := h3 (by omega)
  refine ⟨b, o, e, hb, fun i hi => ?_⟩
  rw [hl] at hi
  rw [hc i (by omega), List.getD_eq_getElem?_getD, List.getD_eq_getElem?_getD, List.getElem?_take, if_pos hi]
/-- append of a whole row of bytes to an empty row of the call's own. -/
theorem step_appV {ops : Array Oper} {rest : List Oper} {o : Oper} {a : Act} {Q : Exit → Act → World → Prop} (hgd : o.guard = none) (s x : Operand)
    (ho : o.op = .call { callee := .builtin .append, args := #[s, x], argTypes := #[28, 28] })
    (B : Nat) (v : Value) (w : World) (hs : a.eval s = v) (hown : OwnB w B v []) (hB : B ≤ w.heap.size) (u : Value) (bs : List Int) (hu : BytesV w u bs) (hpos : 0 < bs.length) (hx : a.eval x = u) (hl : bs.length ≤ 140737488355328)
    (h : ∀ v' w', OwnB w' B v' bs → Below B w w' → wpList Try.prog ops Q rest (a.put o.dst v') w') : wpList Try.prog ops Q (o :: rest) a w := by
  obtain ⟨i0, hi, hz0, hz1, hz2⟩ := info_parts info5
  obtain ⟨ad, cap, rfl, h1, h2, h3⟩ := hu
  obtain ⟨b, of, rfl, hb, hc⟩ := h3 hpos
  refine wpList_append_own _ hgd s x 28 ho B 5 i0 (.int .u8 0) 1 1 Try.underlying28 hi hz0 hz1 hz2 rfl (by decide) v 0 (bv []) hs hown ⟨b, of, none⟩ bs.length cap (bv bs) hx (by rw [bv_len]; omega) ?_ ?_ (by unfold maxLen; omega) (by omega) hB ?_
  · intro j u hj
    have hjl : j < bs.length := by have := (List.getElem?_eq_some_iff.1 hj).1; rwa [bv_len] at this
    rw [Go.WideShapes.add_plain, hc j hjl, ← hj]
    unfold bv
    rw [List.getElem?_map, List.getElem?_eq_getElem hjl, List.getD_eq_getElem?_getD, List.getElem?_eq_getElem hjl]
    rfl
  · intro u hu
    unfold bv at hu
    rw [List.mem_map] at hu
    obtain ⟨y, -, rfl⟩ := hu
    rfl
  · intro v' w' h1 h2 _
    refine h v' w' ?_ ?_
    · unfold OwnB
      rw [Nat.zero_add] at h1
      exact h1
    · refine (Below.refl B w).grown h2 hB ?_
      intro k hk
      exact (World.ownsRow.lt hown k (by simpa using hk)).1
theorem OwnB.none' {w : World} (T : Nat) (hT : w.heap.size = T) : OwnB (w.alloc (Obj.cells #[] 5)) T (.slice (some ⟨T, 0, none⟩) 0 0) [] := by subst hT; exact World.ownsRow_made w #[] 0 (Nat.le_refl _) (Nat.zero_le _) rfl
end Go.Proofs.Ytembppihfcclcaa

namespace Go.Proofs.Ytembppihfcclcaa
set_option linter.unusedVariables false
open Go.ChangeShapes Go.WideShapes Go.ChangeAt Go.RowKit

set_option linter.unusedSimpArgs false
def leR (v : Int) : Nat → List Int
  | 0 => []
  | k + 1 => leR v k ++ [v / 2 ^ (8 * k) % 256]
theorem leR_len (v : Int) : ∀ n, (leR v n).length = n
  | 0 => rfl
  | n + 1 => by unfold leR; rw [List.length_append, leR_len v n]; rfl
set_option maxHeartbeats 1000000 in
theorem numR_any (v : Int) (n : Nat) (hv : 0 ≤ v ∧ v < 18446744073709551616) (hn : 0 < n ∧ n ≤ 4) (w : World) :
    Calls Try.prog 18 #[.int .u64 v, .int .i64 n] w fun e w' => e = .returned (.string (strOfNums (leR v n))) ∧ Below w.heap.size w w' := by
  have hO : OwnB w w.heap.size (.slice none 0 0) (leR v 0) := World.ownsRow_nil _ _ _ _
  go_enter Try.func18, Try.ntmps18
  go_wp2_with fail
  go_loopw [5, 6] (fun o i wr => ∃ k : Nat, k ≤ n ∧ i = .int .i64 k ∧ OwnB wr w.heap.size o (leR v k) ∧ Below w.heap.size w wr) (fun _ i _ => n - (intOf i).toNat)
  case atStart => exact ⟨0, by omega, rfl, hO, Below.refl _ _⟩
  case round =>
    obtain ⟨k, hk, rfl, hO, hB⟩ := hrel
    have HO := Lib.hid hO
    have HB := Lib.hid hB
    clear hO
    by_cases hlt : k < n
    · have hki : (k : Int) < (n : Int) := by omega
      have hsz := hB.size
      clear hB
      have HN : Hid (leR v (k + 1) = leR v k ++ [v / 2 ^ (8 * k) % 256]) := Lib.hid rfl
      have hl : (leR v k).length + 1 ≤ 140737488355328 := by rw [leR_len]; omega
      go_wp2_with (at_builtin; refine step_app rfl (.tmp 12) (.tmp 19) rfl w.heap.size _ (leR v k) [v / 2 ^ (8 * k) % 256] wr rfl HO.out hsz 1 _ rfl rfl rfl hl ?_)
      intro v' w' hO' hb'
      rw [← HN.out] at hO'
      have HO2 := Lib.hid hO'
      have HB2 := Lib.hid (HB.out.trans hb')
      clear hO' hb' HO HB HN hl hsz
      go_wp2_with fail
      all_goals first | exact ⟨⟨k + 1, by omega, by go_num, HO2.out, HB2.out⟩, by simp [intOf]; omega⟩ | exact ⟨k + 1, by omega, by go_num, HO2.out, HB2.out⟩ | (simp [intOf]; omega) | go_roundw
    · obtain rfl : k = n := by omega
      have hc := conv_bytes (HO.out.bytes (by rw [leR_len]; omega)) (by rw [leR_len]; omega)
      clear hB
      go_wp2_with fail
      go_ret
      exact ⟨rfl, HB.out⟩
theorem strOfNums_cat (a b : List Int) : strOfNums a ++ strOfNums b = strOfNums (a ++ b) := by
  apply ByteArray.ext
  simp [strOfNums]
theorem putInput_any (x y z : Int) (hz : 0 ≤ z ∧ z ≤ 255) (w : World) :
    Calls Try.prog 55 #[.agg #[.int .i8 x, .int .i8 y, .int .u8 z]] w fun e w' => e = .returned (.string (strOfNums [x % 256, y % 256, z])) ∧ Below w.heap.size w w' := by
  have hz2 : z % 256 = z := by omega
  have hb := ((Below.refl w.heap.size w).alloc (Nat.le_refl _) (Obj.cells #[.int .i8 x, .int .i8 y, .int .u8 z] 34))
  have hO : OwnB ((w.alloc (Obj.cells #[.int .i8 x, .int .i8 y, .int .u8 z] 34)).alloc (Obj.cells #[.int .u8 (x % 256), .int .u8 (y % 256), .int .u8 z] 5)) (w.alloc (Obj.cells #[.int .i8 x, .int .i8 y, .int .u8 z] 34)).heap.size (.slice (some ⟨(w.alloc (Obj.cells #[.int .i8 x, .int .i8 y, .int .u8 z] 34)).heap.size, 0, none⟩) 3 3) [x % 256, y % 256, z] := OwnB.lit [x % 256, y % 256, z] (by unfold maxLen; simp)
  have hs : (w.alloc (Obj.cells #[.int .i8 x, .int .i8 y, .int .u8 z] 34)).heap.size = w.heap.size + 1 := by simp
  have hc := conv_bytes (hO.bytes (by simp)) (by simp)
  have hb2 := hb.alloc hb.size (Obj.cells #[.int .u8 (x % 256), .int .u8 (y % 256), .int .u8 z] 5)
  rw [hs] at hc
  clear hO hb
  go_enter Try.func55, Try.ntmps55
  go_wp2_with fail
  go_ret
  exact ⟨rfl, hb2⟩
end Go.Proofs.Ytembppihfcclcaa
