/-
  Wire: a message comes back from its bytes, in plain words.
-/
import Derived.Test.YtembppihfcclcaaP2
namespace Go.Proofs.Ytembppihfcclcaa
set_option linter.unusedVariables false
open Go.ChangeShapes Go.WideShapes Go.ChangeAt Go.RowKit

set_option linter.unusedSimpArgs false
theorem inB_t {n lo hi : Int} (h : inB true n lo hi = true) : lo ≤ n ∧ n ≤ hi := by unfold inB at h; simpa using h
theorem pre_up {T s x r s' : List Int} (h : T = s' ++ r) (e : s' = s ++ x) : T = s ++ x ++ r := by rw [h, e]
theorem pre_as {T s x r : List Int} (h : T = s ++ x ++ r) : T = s ++ (x ++ r) := by rw [h, List.append_assoc]
theorem body_len (M : Msg) : 4 + (bodyM M).length = (pS19 M).length := (pS19_len M).symm
theorem leV_body (M : Msg) (i c : Nat) : leV (bodyM M) i c = leV (pS19 M) (4 + i) c := by rw [bodyM, leV_drop]
theorem zz_body (M : Msg) (i : Nat) : zz (bodyM M) i = zz (pS19 M) (4 + i) := by rw [bodyM, zz_dropW]
theorem drop_body (M : Msg) (i : Nat) : (bodyM M).drop i = (pS19 M).drop (4 + i) := by rw [bodyM, List.drop_drop]
theorem pt_t {M : Msg} {j : Nat} (h : hasB (M.F 0) j = true) (n : Int) (c : Nat) : pt M j n c = leB n c := by unfold pt; rw [h]; rfl
theorem pt_f {M : Msg} {j : Nat} (h : hasB (M.F 0) j = false) (n : Int) (c : Nat) : pt M j n c = [] := by unfold pt; rw [h]; rfl
/-- A part read back. -/
theorem part_back {M : Msg} {s r : List Int} {i j c : Nat} {n : Int} (hk : gK (bodyM M) = M.F 0) (hp : 4 + i = s.length) (e : pS19 M = s ++ pt M j n c ++ r)
    (hn : hasB (M.F 0) j = true → 0 ≤ n ∧ n < 256 ^ c) (hz : hasB (M.F 0) j = false → n = 0) : (if hasB (gK (bodyM M)) j then leV (bodyM M) i c else 0) = n ∧ 4 + (i + (if hasB (gK (bodyM M)) j then c else 0)) = (s ++ pt M j n c).length := by
  rw [hk]
  cases h : hasB (M.F 0) j
  · rw [pt_f h, List.append_nil]
    simp only [Bool.false_eq_true, if_false]
    exact ⟨(hz h).symm, by omega⟩
  · rw [pt_t h] at e ⊢
    simp only [if_true]
    rw [leV_body, hp]
    refine ⟨rd_num n c e (hn h).1 (hn h).2, ?_⟩
    rw [List.length_append, leB_len]
    omega
theorem back {M : Msg} (hm : MayP M) (hb : MsgB M) : POk (bodyM M) ∧ MLike (prsM (bodyM M)) M := by
  obtain ⟨hF0, hF5, hF6, hF7, hF8, hF9, hF10, hni, hnl, hnd⟩ := hm.bd
  have hF1 := hm.f1
  have hF2 := hb.f2
  have hF3 := hb.f3
  have hF4 := hb.f4
  have hF11 := hb.f11
  have hF12 := hb.f12
  have t18 : pS19 M = pS18 M ++ M.d ++ [] := by rw [List.append_nil, pS19]
  have t17 := pre_up (pre_as t18) (by rw [pS18] : pS18 M = pS17 M M.nl ++ pt M 10 M.d.length 1)
  have t16 := pre_up (pre_as t17) (by rw [pS17] : pS17 M M.nl = pS16 M ++ logW M.D M.nl)
  have t15 := pre_up (pre_as t16) (by rw [pS16] : pS16 M = pS15 M M.ni ++ pt M 9 M.nl 1)
  have t14 := pre_up (pre_as t15) (by rw [pS15] : pS15 M M.ni = pS14 M ++ inpsW M.I M.ni)
  have t13 := pre_up (pre_as t14) (by rw [pS14] : pS14 M = pS13 M ++ pt M 8 M.ni 1)
  have t12 := pre_up (pre_as t13) (by rw [pS13] : pS13 M = pS12 M ++ pt M 7 (M.F 12) 8)
  have t11 := pre_up (pre_as t12) (by rw [pS12] : pS12 M = pS11 M ++ pt M 6 (M.F 11) 4)
  have t10 := pre_up (pre_as t11) (by rw [pS11] : pS11 M = pS10 M ++ pt M 5 (M.F 10) 2)
  have t9 := pre_up (pre_as t10) (by rw [pS10] : pS10 M = pS9 M ++ pt M 4 (M.F 9) 2)
  have t8 := pre_up (pre_as t9) (by rw [pS9] : pS9 M = pS8 M ++ pt M 3 (M.F 8) 1)
  have t7 := pre_up (pre_as t8) (by rw [pS8] : pS8 M = pS7 M ++ pt M 2 (M.F 7) 4)
  have t6 := pre_up (pre_as t7) (by rw [pS7] : pS7 M = pS6 M ++ pt M 1 (M.F 6) 2)
  have t5 := pre_up (pre_as t6) (by rw [pS6] : pS6 M = pS5 M ++ pt M 0 (M.F 5) 1)
  have t4 := pre_up (pre_as t5) (by rw [pS5] : pS5 M = pS4 M ++ leB (M.F 4) 4)
  have t3 := pre_up (pre_as t4) (by rw [pS4] : pS4 M = pS3 M ++ leB (M.F 3) 2)
  have t2 := pre_up (pre_as t3) (by rw [pS3] : pS3 M = pS2 M ++ leB (M.F 2) 2)
  have t1 := pre_up (pre_as t2) (by rw [pS2] : pS2 M = pS1 M ++ leB (M.F 1) 1)
  have t0 := pre_up (pre_as t1) (by rw [pS1] : pS1 M = pS0 M ++ leB (M.F 0) 1)
  have l0 : (pS0 M).length = 4 := by rw [pS0, leB_len]
  have l1 : (pS1 M).length = 5 := by rw [pS1, List.length_append, leB_len, l0]
  have l2 : (pS2 M).length = 6 := by rw [pS2, List.length_append, leB_len, l1]
  have l3 : (pS3 M).length = 8 := by rw [pS3, List.length_append, leB_len, l2]
  have l4 : (pS4 M).length = 10 := by rw [pS4, List.length_append, leB_len, l3]
  have l5 : (pS5 M).length = 14 := pS5_len M
  have v0 := rd_num _ _ t0 (by omega) (by omega)
  have v1 := rd_num _ _ t1 (by omega) (by omega)
  have v2 := rd_num _ _ t2 (by omega) (by omega)
  have v3 := rd_num _ _ t3 (by omega) (by omega)
  have v4 := rd_num _ _ t4 (by omega) (by omega)
  rw [l0] at v0
  rw [l1] at v1
  rw [l2] at v2
  rw [l3] at v3
  rw [l4] at v4
  have hk : gK (bodyM M) = M.F 0 := by unfold gK; rw [leV_body]; exact v0
  have q5 : 4 + gPs (bodyM M) 0 = (pS5 M).length := l5.symm
  have z5 := part_back hk q5 t5 (fun _ => ⟨hF5.1, by omega⟩) (fun h => inB_z (by have := hm.b0; rwa [h] at this))
  have z6 := part_back (i := gPs (bodyM M) 1) hk (z5.2.trans (by rw [pS6])) t6 (fun _ => ⟨hF6.1, by omega⟩) (fun h => inB_z (by have := hm.b1; rwa [h] at this))
  have z7 := part_back (i := gPs (bodyM M) 2) hk (z6.2.trans (by rw [pS7])) t7 (fun _ => ⟨hF7.1, by omega⟩) (fun h => inB_z (by have := hm.b2; rwa [h] at this))
  have z8 := part_back (i := gPs (bodyM M) 3) hk (z7.2.trans (by rw [pS8])) t8 (fun _ => ⟨hF8.1, by omega⟩) (fun h => inB_z (by have := hm.b3; rwa [h] at this))
  have z9 := part_back (i := gPs (bodyM M) 4) hk (z8.2.trans (by rw [pS9])) t9 (fun _ => ⟨hF9.1, by omega⟩) (fun h => inB_z (by have := hm.b4; rwa [h] at this))
  have z10 := part_back (i := gPs (bodyM M) 5) hk (z9.2.trans (by rw [pS10])) t10 (fun _ => ⟨hF10.1, by omega⟩) (fun h => inB_z (by have := hm.b5; rwa [h] at this))
  have z11 := part_back (i := gPs (bodyM M) 6) hk (z10.2.trans (by rw [pS11])) t11 (fun _ => ⟨hF11.1, by omega⟩) (fun h => hm.b6.resolve_left (by rw [h]; exact Bool.false_ne_true))
  have z12 := part_back (i := gPs (bodyM M) 7) hk (z11.2.trans (by rw [pS12])) t12 (fun _ => ⟨hF12.1, by omega⟩) (fun h => hm.b7.resolve_left (by rw [h]; exact Bool.false_ne_true))
  have z13 := part_back (i := gPs (bodyM M) 8) hk (z12.2.trans (by rw [pS13])) t13 (fun _ => ⟨by omega, by omega⟩) (fun h => inB_z (by have := hm.b8; rwa [h] at this))
  have eNi : gNi (bodyM M) = M.ni := by unfold gNi; rw [z13.1]; rfl
  have q14 : 4 + gQi (bodyM M) = (pS14 M).length := by unfold gQi; exact z13.2.trans (by rw [pS14])
  have l15 : (pS15 M M.ni).length = (pS14 M).length + 3 * M.ni := by rw [pS15, List.length_append, inpsW_len]
  have q15 : 4 + gQl (bodyM M) = (pS15 M M.ni).length := by unfold gQl; rw [eNi]; omega
  have z15 := part_back (i := gQl (bodyM M)) hk q15 t15 (fun _ => ⟨by omega, by omega⟩) (fun h => inB_z (by have := hm.b9; rwa [h] at this))
  have eNl : gNl (bodyM M) = M.nl := by unfold gNl; rw [z15.1]; rfl
  have q16 : 4 + gQe (bodyM M) 0 = (pS16 M).length := z15.2.trans (by rw [pS16])
  have hlog := logOk_get M.nl hm.l
  have hent : ∀ m, m < M.nl → 4 + gQe (bodyM M) m = (pS16 M ++ logW M.D m).length → eLen (bodyM M) (gQe (bodyM M) m) = (entW (M.D m)).length ∧ eBy (bodyM M) (gQe (bodyM M) m) = entW (M.D m) := by
    intro m hml hq
    obtain ⟨r, hr⟩ := pre_logW M M.D (pS16 M) M.nl m hml
    have hlen := (entW_len (hlog m hml).1).2
    rw [hr] at t16
    have e1 : pS19 M = (pS16 M ++ logW M.D m) ++ leB ((entW (M.D m)).length : Int) 2 ++ (entW (M.D m) ++ (r ++ (pt M 10 M.d.length 1 ++ (M.d ++ [])))) := by rw [t16]; simp only [List.append_assoc]
    have e2 : pS19 M = ((pS16 M ++ logW M.D m) ++ leB ((entW (M.D m)).length : Int) 2) ++ entW (M.D m) ++ (r ++ (pt M 10 M.d.length 1 ++ (M.d ++ []))) := by rw [t16]; simp only [List.append_assoc]
    have hle : eLen (bodyM M) (gQe (bodyM M) m) = (entW (M.D m)).length := by
      unfold eLen
      rw [leV_body, hq, rd_num _ 2 e1 (by omega) (by omega)]
      rfl
    refine ⟨hle, ?_⟩
    unfold eBy
    rw [hle, drop_body, show 4 + (gQe (bodyM M) m + 2) = ((pS16 M ++ logW M.D m) ++ leB ((entW (M.D m)).length : Int) 2).length by rw [List.length_append, leB_len, ← hq]; omega, e2]
    exact take_mid _ _ _
  have hQ : ∀ m, m ≤ M.nl → 4 + gQe (bodyM M) m = (pS16 M ++ logW M.D m).length := by
    intro m
    induction m with
    | zero => intro _; rw [q16, logW, List.append_nil]
    | succ m ih =>
      intro hml
      have h1 := ih (by omega)
      have h2 := (hent m (by omega) h1).1
      show 4 + (gQe (bodyM M) m + 2 + eLen (bodyM M) (gQe (bodyM M) m)) = _
      rw [h2, logW]
      simp only [List.length_append, leB_len] at h1 ⊢
      omega
  have q17 : 4 + gQd (bodyM M) = (pS17 M M.nl).length := by unfold gQd; rw [eNl, hQ _ (Nat.le_refl _), pS17]
  have z17 := part_back (i := gQd (bodyM M)) hk q17 t17 (fun _ => ⟨by omega, by omega⟩) (fun h => inB_z (by have := hm.b10; rwa [h] at this))
  have eNd : gNd (bodyM M) = M.d.length := by unfold gNd; rw [z17.1]; rfl
  have q18 : 4 + gQt (bodyM M) = (pS18 M).length := by unfold gQt; exact z17.2.trans (by rw [pS18])
  have eD : gDt (bodyM M) = M.d := by
    unfold gDt
    rw [eNd, drop_body, q18, t18]
    exact take_mid _ _ _
  have hLE : ∀ m, m < M.nl → OkG (eBy (bodyM M) (gQe (bodyM M) m)) ∧ ELike (gD (bodyM M) m) (M.D m) := by
    intro m hml
    have h1 := (hent m hml (hQ m (by omega))).2
    have h2 := put_back (hlog m hml).1 (hb.e m hml)
    unfold gD
    rw [h1]
    obtain ⟨s1, s2, s3, s4⟩ := sameB_iff h2.2
    exact ⟨h2.1, ⟨s1, s2, s3, s4⟩⟩
  refine ⟨⟨?_, fun m hml => (hLE m (by rw [← eNl]; exact hml)).1⟩, ⟨?_, eNi, ?_, eNl, fun m hml => (hLE m (by rw [← eNl]; exact hml)).2, eD⟩⟩
  · have := body_len M
    have e3 : (pS19 M).length = (pS18 M).length + M.d.length := by rw [pS19, List.length_append]
    unfold gEnd
    omega
  · intro k hk13
    show gF (bodyM M) k = M.F k
    rcases (by omega : k = 0 ∨ k = 1 ∨ k = 2 ∨ k = 3 ∨ k = 4 ∨ k = 5 ∨ k = 6 ∨ k = 7 ∨ k = 8 ∨ k = 9 ∨ k = 10 ∨ k = 11 ∨ k = 12) with rfl | rfl | rfl | rfl | rfl | rfl | rfl | rfl | rfl | rfl | rfl | rfl | rfl
    · exact hk
    · exact (leV_body M 1 1).trans v1
    · exact (leV_body M 2 2).trans v2
    · exact (leV_body M 4 2).trans v3
    · exact (leV_body M 6 4).trans v4
    · exact z5.1
    · exact z6.1
    · exact z7.1
    · exact z8.1
    · exact z9.1
    · exact z10.1
    · exact z11.1
    · exact z12.1
  · intro k hkn
    have hkn' : k < 3 * M.ni := by rw [← eNi]; exact hkn
    show gIn (bodyM M) k = M.I k
    have key : zz (bodyM M) (gQi (bodyM M) + k) = zz (inp3 M.I (k / 3)) (k % 3) := by
      rw [zz_body, t14, List.append_assoc, zz_app_r _ _ _ k (by omega), zz_app_l _ _ _ (by rw [inpsW_len]; exact hkn')]
      have := zz_inpsW M.I (k % 3) (Nat.mod_lt _ (by omega)) M.ni (k / 3) (by omega)
      rw [show 3 * (k / 3) + k % 3 = k by omega] at this
      exact this
    unfold gIn
    rw [key]
    have hxy := hb.xy (k / 3) (by omega)
    rcases (by omega : k % 3 = 0 ∨ k % 3 = 1 ∨ k % 3 = 2) with e | e | e
    · rw [if_neg (by omega), e]
      show sgn (M.I (k / 3 * 3) % 256) = M.I k
      rw [show k / 3 * 3 = k by omega] at hxy ⊢
      unfold sgn
      split <;> omega
    · rw [if_neg (by omega), e]
      show sgn (M.I (k / 3 * 3 + 1) % 256) = M.I k
      rw [show k / 3 * 3 + 1 = k by omega] at hxy ⊢
      unfold sgn
      split <;> omega
    · rw [if_pos e, e]
      show M.I (k / 3 * 3 + 2) = M.I k
      rw [show k / 3 * 3 + 2 = k by omega]
/-- What Put writes Get takes for a message like it. -/
theorem ok_put {M : Msg} (hm : mayM M = true) (hb : MsgB M) (hl : (putM M).length ≤ 1200) : SumOk (putM M) ∧ OkM (putM M) ∧ (putM M).drop 4 = bodyM M := by
  obtain ⟨h1, h2⟩ := back ((mayM_iff M).1 hm) hb
  have hd : (putM M).drop 4 = bodyM M := by
    rw [putM_eq]
    have : (leB ((crc (bodyM M) (bodyM M).length : Nat) : Int) 4).length = 4 := leB_len _ 4
    exact List.drop_left' this
  have hc := crc_lt (bodyM M) (bodyM_by hb) (bodyM M).length
  refine ⟨⟨?_, ?_⟩, ⟨?_, ?_, ?_, ?_⟩, hd⟩
  · rw [putM_eq, List.length_append, leB_len]; omega
  · rw [hd]
    generalize hx : ((crc (bodyM M) (bodyM M).length : Nat) : Int) = x at *
    have := rd_num (T := putM M) (s := []) (r := bodyM M) x 4 (by rw [putM_eq, hx]; rfl) (by omega) (by omega)
    exact this
  · rw [hd]; exact h1
  · rw [hd, h2.may]; exact hm
  · rw [hd, h2.put.2]; exact hl
  · rw [hd, h2.put.2]
end Go.Proofs.Ytembppihfcclcaa
