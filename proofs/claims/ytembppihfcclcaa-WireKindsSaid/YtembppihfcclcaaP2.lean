/-
  Wire: a message read back from its bytes, in plain words.
-/
import Derived.Test.YtembppihfcclcaaMQ
namespace Go.Proofs.Ytembppihfcclcaa
set_option linter.unusedVariables false
open Go.ChangeShapes Go.WideShapes Go.ChangeAt Go.RowKit

set_option linter.unusedSimpArgs false
/-- Two messages that say the same. -/
structure ELike (x y : Ent) : Prop where
  fr : x.fr = y.fr
  n : x.n = y.n
  e : ∀ i, i < x.n → x.E i 0 = y.E i 0 ∧ x.E i 1 = y.E i 1 ∧ x.E i 2 = y.E i 2 ∧ x.E i 3 = y.E i 3
  i : ∀ k, k < 24 → x.I k = y.I k
structure MLike (M N : Msg) : Prop where
  f : ∀ k, k < 13 → M.F k = N.F k
  ni : M.ni = N.ni
  i : ∀ k, k < 3 * M.ni → M.I k = N.I k
  nl : M.nl = N.nl
  l : ∀ m, m < M.nl → ELike (M.D m) (N.D m)
  d : M.d = N.d
theorem ELike.put {x y : Ent} (h : ELike x y) : entW x = entW y ∧ mayD x = mayD y ∧ sameD x y = true := putB_congr h.fr h.n h.e h.i
theorem inpsW_congr {I I' : Nat → Int} : ∀ n, (∀ k, k < 3 * n → I k = I' k) → inpsW I n = inpsW I' n
  | 0, _ => rfl
  | n + 1, h => by
    unfold inpsW
    rw [inpsW_congr n (fun k hk => h k (by omega))]
    unfold inp3
    rw [h (n * 3) (by omega), h (n * 3 + 1) (by omega), h (n * 3 + 2) (by omega)]
theorem logW_congr {D D' : Nat → Ent} : ∀ n, (∀ m, m < n → ELike (D m) (D' m)) → logW D n = logW D' n
  | 0, _ => rfl
  | n + 1, h => by
    unfold logW
    rw [logW_congr n (fun k hk => h k (by omega)), (h n (by omega)).put.1]
theorem logOk_congr {fr fr' : Int} {D D' : Nat → Ent} (hf : fr = fr') : ∀ n, (∀ m, m < n → ELike (D m) (D' m)) → logOk fr D n = logOk fr' D' n
  | 0, _ => rfl
  | n + 1, h => by
    unfold logOk
    rw [logOk_congr hf n (fun k hk => h k (by omega)), (h n (by omega)).put.2.1, (h n (by omega)).fr, hf]
theorem pt_congr {M N : Msg} (h : M.F 0 = N.F 0) (j : Nat) {n n' : Int} (hn : n = n') (c : Nat) : pt M j n c = pt N j n' c := by unfold pt; rw [h, hn]
theorem MLike.body {M N : Msg} (h : MLike M N) : pS19 M = pS19 N := by
  have f0 := h.f 0 (by omega)
  have e0 : pS0 M = pS0 N := rfl
  have e1 : pS1 M = pS1 N := by rw [pS1, pS1, e0, f0]
  have e2 : pS2 M = pS2 N := by rw [pS2, pS2, e1, h.f 1 (by omega)]
  have e3 : pS3 M = pS3 N := by rw [pS3, pS3, e2, h.f 2 (by omega)]
  have e4 : pS4 M = pS4 N := by rw [pS4, pS4, e3, h.f 3 (by omega)]
  have e5 : pS5 M = pS5 N := by rw [pS5, pS5, e4, h.f 4 (by omega)]
  have e6 : pS6 M = pS6 N := by rw [pS6, pS6, e5, pt_congr f0 0 (h.f 5 (by omega)) 1]
  have e7 : pS7 M = pS7 N := by rw [pS7, pS7, e6, pt_congr f0 1 (h.f 6 (by omega)) 2]
  have e8 : pS8 M = pS8 N := by rw [pS8, pS8, e7, pt_congr f0 2 (h.f 7 (by omega)) 4]
  have e9 : pS9 M = pS9 N := by rw [pS9, pS9, e8, pt_congr f0 3 (h.f 8 (by omega)) 1]
  have e10 : pS10 M = pS10 N := by rw [pS10, pS10, e9, pt_congr f0 4 (h.f 9 (by omega)) 2]
  have e11 : pS11 M = pS11 N := by rw [pS11, pS11, e10, pt_congr f0 5 (h.f 10 (by omega)) 2]
  have e12 : pS12 M = pS12 N := by rw [pS12, pS12, e11, pt_congr f0 6 (h.f 11 (by omega)) 4]
  have e13 : pS13 M = pS13 N := by rw [pS13, pS13, e12, pt_congr f0 7 (h.f 12 (by omega)) 8]
  have e14 : pS14 M = pS14 N := by rw [pS14, pS14, e13, pt_congr f0 8 (congrArg _ h.ni) 1]
  have e15 : pS15 M M.ni = pS15 N N.ni := by rw [pS15, pS15, e14, inpsW_congr M.ni h.i, h.ni]
  have e16 : pS16 M = pS16 N := by rw [pS16, pS16, e15, pt_congr f0 9 (congrArg _ h.nl) 1]
  have e17 : pS17 M M.nl = pS17 N N.nl := by rw [pS17, pS17, e16, logW_congr M.nl h.l, h.nl]
  have e18 : pS18 M = pS18 N := by rw [pS18, pS18, e17, pt_congr f0 10 (by rw [h.d]) 1]
  rw [pS19, pS19, e18, h.d]
theorem MLike.put {M N : Msg} (h : MLike M N) : bodyM M = bodyM N ∧ putM M = putM N := by
  have e : bodyM M = bodyM N := by rw [bodyM, bodyM, h.body]
  exact ⟨e, by rw [putM_eq, putM_eq, e]⟩
theorem MLike.may {M N : Msg} (h : MLike M N) : mayM M = mayM N := by
  unfold mayM
  rw [h.f 0 (by omega), h.f 1 (by omega), h.f 5 (by omega), h.f 6 (by omega), h.f 7 (by omega), h.f 8 (by omega), h.f 9 (by omega), h.f 10 (by omega), h.f 11 (by omega), h.f 12 (by omega), h.d, logOk_congr rfl M.nl h.l, inpAll_congr M.ni h.i, h.ni, h.nl]
/-! Reading along a list that begins with what was written. -/
theorem pre_zz {s r : List Int} (j i : Nat) (h : i < s.length) (e : j = i) : zz (s ++ r) j = zz s i := by subst e; exact zz_app_l s r j h
theorem emod_split (n P : Int) (hP : 0 < P) : n % P + n / P % 256 * P = n % (P * 256) := by
  have h1 := Int.mul_ediv_add_emod n P
  have h2 := Int.mul_ediv_add_emod (n / P) 256
  have b1 := Int.emod_nonneg n (show P ≠ 0 by omega)
  have b2 := Int.emod_lt_of_pos n hP
  have b3 := Int.emod_nonneg (n / P) (show (256 : Int) ≠ 0 by omega)
  have b4 := Int.emod_lt_of_pos (n / P) (show (0 : Int) < 256 by omega)
  generalize n % P = r at *
  generalize n / P = q at *
  generalize q % 256 = s at *
  generalize q / 256 = t at *
  have e : n = (r + s * P) + P * 256 * t := by rw [← h1, ← h2, Int.mul_add, Int.mul_comm s P, Int.mul_assoc]; omega
  rw [e, Int.add_mul_emod_self_left]
  have h5 : s * P ≤ 255 * P := Int.mul_le_mul_of_nonneg_right (by omega) (by omega)
  have h6 : 0 ≤ s * P := Int.mul_nonneg b3 (by omega)
  exact (Int.emod_eq_of_lt (by omega) (by omega)).symm
theorem shN_div (n : Int) : ∀ c, shN n c = n / 256 ^ c
  | 0 => by show n = n / 1; omega
  | c + 1 => by show shN n c / 256 = n / (256 ^ c * 256); rw [shN_div n c, Int.ediv_ediv_of_nonneg (Int.le_of_lt (Int.pow_pos (by omega)))]
theorem leV_leB (n : Int) : ∀ c (s r : List Int), leV (s ++ leB n c ++ r) s.length c = n % 256 ^ c
  | 0, s, r => by show (0 : Int) = n % 1; omega
  | c + 1, s, r => by
    show leV (s ++ (leB n c ++ [shN n c % 256]) ++ r) s.length c + zz (s ++ (leB n c ++ [shN n c % 256]) ++ r) (s.length + c) * 256 ^ c = n % (256 ^ c * 256)
    have e1 : s ++ (leB n c ++ [shN n c % 256]) ++ r = s ++ leB n c ++ ([shN n c % 256] ++ r) := by simp only [List.append_assoc]
    rw [e1, leV_leB n c s _, zz_app_r _ _ (s.length + c) 0 (by rw [List.length_append, leB_len, Nat.add_zero])]
    show n % 256 ^ c + shN n c % 256 * 256 ^ c = _
    rw [shN_div]
    exact emod_split n _ (Int.pow_pos (by omega))
theorem rd_num {T s r : List Int} (n : Int) (c : Nat) (e : T = s ++ leB n c ++ r) (h0 : 0 ≤ n) (h1 : n < 256 ^ c) : leV T s.length c = n := by
  rw [e, leV_leB n c s r]
  exact Int.emod_eq_of_lt h0 h1
theorem zz_dropW (bs : List Int) (p j : Nat) : zz (bs.drop p) j = zz bs (p + j) := by
  unfold zz
  rw [List.getD_eq_getElem?_getD, List.getD_eq_getElem?_getD, List.getElem?_drop]
theorem leV_drop (T : List Int) (k : Nat) : ∀ c i, leV (T.drop k) i c = leV T (k + i) c
  | 0, _ => rfl
  | c + 1, i => by
    show leV (T.drop k) i c + zz (T.drop k) (i + c) * 256 ^ c = leV T (k + i) c + zz T (k + i + c) * 256 ^ c
    rw [leV_drop T k c i, zz_dropW, Nat.add_assoc]
theorem zz_inpsW (I : Nat → Int) (r : Nat) (hr : r < 3) : ∀ n i, i < n → zz (inpsW I n) (3 * i + r) = zz (inp3 I i) r
  | 0, i, h => by omega
  | n + 1, i, h => by
    unfold inpsW
    by_cases e : i = n
    · subst e
      exact zz_app_r _ _ _ r (by rw [inpsW_len])
    · rw [zz_app_l _ _ _ (by rw [inpsW_len]; omega)]
      exact zz_inpsW I r hr n i (by omega)
theorem take_mid (s x r : List Int) : ((s ++ x ++ r).drop s.length).take x.length = x := by
  rw [List.append_assoc, List.drop_left, List.take_left]
/-- Each stretch of what Put writes. -/
theorem pre_logW (M : Msg) (D : Nat → Ent) (s : List Int) : ∀ n m, m < n → ∃ r, s ++ logW D n = (s ++ logW D m) ++ leB (entW (D m)).length 2 ++ entW (D m) ++ r
  | 0, m, h => by omega
  | n + 1, m, h => by
    by_cases e : m = n
    · subst e
      refine ⟨[], ?_⟩
      rw [List.append_nil]
      show s ++ (logW D m ++ leB (entW (D m)).length 2 ++ entW (D m)) = _
      simp only [List.append_assoc]
    · obtain ⟨r, hr⟩ := pre_logW M D s n m (by omega)
      refine ⟨r ++ (leB (entW (D n)).length 2 ++ entW (D n)), ?_⟩
      show s ++ (logW D n ++ leB (entW (D n)).length 2 ++ entW (D n)) = _
      have e2 : s ++ (logW D n ++ leB (entW (D n)).length 2 ++ entW (D n)) = (s ++ logW D n) ++ (leB (entW (D n)).length 2 ++ entW (D n)) := by simp only [List.append_assoc]
      rw [e2, hr]
      simp only [List.append_assoc]
end Go.Proofs.Ytembppihfcclcaa
