/-
  Wire: the bytes of a message, by its kind's letters. Wire: a message comes back from its bytes, in plain words. Wire: what the reference's Get accepts, in plain words. Wire: Same.
-/
import Derived.Test.YtembppihfcclcaaG17x
import Derived.Test.YtembppihfcclcaaG09x
import Derived.Test.YtembppihfcclcaaG12x
import Derived.Test.YtembppihfcclcaaMR
namespace Go.Proofs.Ytembppihfcclcaa
set_option linter.unusedVariables false
open Go.ChangeShapes Go.WideShapes Go.ChangeAt Go.RowKit

set_option linter.unusedSimpArgs false
theorem shN_pow (v : Int) : ∀ k, shN v k = v / 2 ^ (8 * k)
  | 0 => by unfold shN; simp
  | k + 1 => by
    unfold shN
    rw [shN_pow v k, show 8 * (k + 1) = 8 * k + 8 by omega, Int.pow_add]
    exact Int.ediv_ediv_of_nonneg (Int.pow_nonneg (by decide))
theorem leR_eq (v : Int) : ∀ n, leR v n = leB v n
  | 0 => rfl
  | n + 1 => by unfold leR leB; rw [leR_eq v n, shN_pow]
theorem numW_any (v : Int) (n : Nat) (hv : 0 ≤ v ∧ v < 18446744073709551616) (hn : 0 < n ∧ n ≤ 8) (w : World) :
    Calls Try.prog 18 #[.int .u64 v, .int .i64 n] w fun e w' => e = .returned (.string (strOfNums (leB v n))) ∧ Below w.heap.size w w' := by
  rw [← leR_eq]
  exact numR8_any v n hv hn w
/-- The bytes of one part. -/
def partB (M : Msg) (j : Nat) : List Int := if j = 0 then leB (M.F 5) 1 else if j = 1 then leB (M.F 6) 2 else if j = 2 then leB (M.F 7) 4 else if j = 3 then leB (M.F 8) 1 else if j = 4 then leB (M.F 9) 2 else if j = 5 then leB (M.F 10) 2 else if j = 6 then leB (M.F 11) 4 else if j = 7 then leB (M.F 12) 8 else if j = 8 then leB M.ni 1 ++ inpsW M.I M.ni else if j = 9 then leB M.nl 1 ++ logW M.D M.nl else leB M.d.length 1 ++ M.d
def jL (c : Nat) : Nat := if c = 115 then 0 else if c = 103 then 1 else if c = 102 then 2 else if c = 99 then 3 else if c = 110 then 4 else if c = 111 then 5 else if c = 98 then 6 else if c = 109 then 7 else if c = 105 then 8 else if c = 108 then 9 else 10
def headW (M : Msg) : List Int := leB (M.F 0) 1 ++ leB (M.F 1) 1 ++ leB (M.F 2) 2 ++ leB (M.F 3) 2 ++ leB (M.F 4) 4
def joinL (M : Msg) (js : List Nat) : List Int := js.flatMap (partB M)
theorem joinL_app (M : Msg) (a b : List Nat) : joinL M (a ++ b) = joinL M a ++ joinL M b := List.flatMap_append ..
def segM (M : Msg) (j : Nat) : List Int := if hasB (M.F 0) j then partB M j else []
def segs (M : Msg) : Nat → List Int
  | 0 => []
  | n + 1 => segs M n ++ segM M n
theorem segs_eq (M : Msg) : ∀ n, segs M n = joinL M ((List.range n).filter (hasB (M.F 0)))
  | 0 => rfl
  | n + 1 => by
    unfold segs segM
    rw [segs_eq M n, List.range_succ, List.filter_append, joinL_app]
    congr 1
    cases h : hasB (M.F 0) n
    · simp [h, joinL]
    · simp [h, joinL]
theorem js_eq (k : Int) : (List.range 11).filter (hasB k) = (pkL k).map jL := by
  rcases kind_cases k with rfl | rfl | rfl | rfl | rfl | rfl | rfl | rfl | rfl | rfl | rfl | rfl | rfl | rfl | hh
  iterate 14
    · kernel_rfl
  rw [pkL_no k hh]
  have h : ∀ j, j ∈ List.range 11 → ¬ (hasB k j = true) := fun j hj => by
    rw [← wB_has k j (List.mem_range.1 hj)]
    unfold wB
    rw [pkL_no k hh]
    simp
  rw [List.filter_eq_nil_iff.2 h]
  rfl
theorem seg8 {M : Msg} (h : MayP M) : pt M 8 M.ni 1 ++ inpsW M.I M.ni = segM M 8 := by
  unfold pt segM
  cases hh : hasB (M.F 0) 8
  · have h0 := h.b8
    rw [hh] at h0
    have : M.ni = 0 := by unfold inB at h0; simp at h0; exact_mod_cast h0
    rw [this]
    rfl
  · rfl
theorem seg9 {M : Msg} (h : MayP M) : pt M 9 M.nl 1 ++ logW M.D M.nl = segM M 9 := by
  unfold pt segM
  cases hh : hasB (M.F 0) 9
  · have h0 := h.b9
    rw [hh] at h0
    have : M.nl = 0 := by unfold inB at h0; simp at h0; exact_mod_cast h0
    rw [this]
    rfl
  · rfl
theorem seg10 {M : Msg} (h : MayP M) : pt M 10 M.d.length 1 ++ M.d = segM M 10 := by
  unfold pt segM
  cases hh : hasB (M.F 0) 10
  · have h0 := h.b10
    rw [hh] at h0
    have : M.d = [] := by unfold inB at h0; simp at h0; exact h0
    rw [this]
    rfl
  · rfl
theorem segs11 (M : Msg) : segs M 11 = segM M 0 ++ (segM M 1 ++ (segM M 2 ++ (segM M 3 ++ (segM M 4 ++ (segM M 5 ++ (segM M 6 ++ (segM M 7 ++ (segM M 8 ++ (segM M 9 ++ segM M 10))))))))) := by
  unfold segs segs segs segs segs segs segs segs segs segs segs segs
  simp only [List.append_assoc, List.nil_append]
theorem pS19_segs {M : Msg} (h : MayP M) : pS19 M = leB 0 4 ++ (headW M ++ segs M 11) := by
  rw [segs11, ← seg8 h, ← seg9 h, ← seg10 h]
  unfold pS19 pS18 pS17 pS16 pS15 pS14 pS13 pS12 pS11 pS10 pS9 pS8 pS7 pS6 pS5 pS4 pS3 pS2 pS1 pS0 headW segM
  simp only [List.append_assoc]
  rfl
theorem body_join {M : Msg} (h : MayP M) : bodyM M = headW M ++ joinL M ((pkL (M.F 0)).map jL) := by
  rw [← js_eq, ← segs_eq, ← drop_pS19, pS19_segs h]
  exact List.drop_left' (leB_len 0 4)
theorem putM_join {M : Msg} (h : MayP M) : putM M = leB ((crc (headW M ++ joinL M ((pkL (M.F 0)).map jL)) (headW M ++ joinL M ((pkL (M.F 0)).map jL)).length : Nat) : Int) 4 ++ (headW M ++ joinL M ((pkL (M.F 0)).map jL)) := by
  rw [putM_eq, body_join h]
theorem partB_len {M : Msg} (h : MayP M) (j : Nat) : (partB M j).length ≤ 4000 := by
  obtain ⟨-, -, -, -, -, -, -, hni, hnl, hnd⟩ := h.bd
  have hl := logW_len h.l M.nl (Nat.le_refl _)
  unfold partB
  repeat' split
  all_goals (simp only [List.length_append, leB_len, inpsW_len]; try omega)
end Go.Proofs.Ytembppihfcclcaa

namespace Go.Proofs.Ytembppihfcclcaa
set_option linter.unusedVariables false
open Go.ChangeShapes Go.WideShapes Go.ChangeAt Go.RowKit

set_option linter.unusedSimpArgs false
theorem inB_t {n lo hi : Int} (h : inB true n lo hi = true) : lo ≤ n ∧ n ≤ hi := by unfold inB at h; simpa using h
theorem pre_up {T s x r s' : List Int} (h : T = s' ++ r) (e : s' = s ++ x) : T = s ++ x ++ r := by rw [h, e]
theorem pre_as {T s x r : List Int} (h : T = s ++ x ++ r) : T = s ++ (x ++ r) := by rw [h, List.append_assoc]
theorem body_len (M : Msg) : 4 + (bodyM M).length = (pS19 M).length := (pS19_len M).symm
theorem leV_body (M : Msg) (i c : Nat) : leV (bodyM M) i c = leV (pS19 M) (4 + i) c := by rw [bodyM, leV_drop]
theorem zz_body (M : Msg) (i : Nat) : zz (bodyM M) i = zz (pS19 M) (4 + i) := by rw [bodyM, zz_dropW]
theorem drop_body (M : Msg) (i : Nat) : (bodyM M).drop i = (pS19 M).drop (4 + i) := by rw [bodyM, List.drop_drop]
theorem pt_t {M : Msg} {j : Nat} (h : hasB (M.F 0) j = true) (n : Int) (c : Nat) : pt M j n c = leB n c := by unfold pt; rw [h]; rfl
theorem pt_f {M : Msg} {j : Nat} (h : hasB (M.F 0) j = false) (n : Int) (c : Nat) : pt M j n c = [] := by unfold pt; rw [h]; rfl
/-- A part read back. -/
theorem part_back {M : Msg} {s r : List Int} {i j c : Nat} {n : Int} (hk : gK (bodyM M) = M.F 0) (hp : 4 + i = s.length) (e : pS19 M = s ++ pt M j n c ++ r)
    (hn : hasB (M.F 0) j = true → 0 ≤ n ∧ n < 256 ^ c) (hz : hasB (M.F 0) j = false → n = 0) : (if hasB (gK (bodyM M)) j then leV (bodyM M) i c else 0) = n ∧ 4 + (i + (if hasB (gK (bodyM M)) j then c else 0)) = (s ++ pt M j n c).length := by
  rw [hk]
  cases h : hasB (M.F 0) j
  · rw [pt_f h, List.append_nil]
    simp only [Bool.false_eq_true, if_false]
    exact ⟨(hz h).symm, by omega⟩
  · rw [pt_t h] at e ⊢
    simp only [if_true]
    rw [leV_body, hp]
    refine ⟨rd_num n c e (hn h).1 (hn h).2, ?_⟩
    rw [List.length_append, leB_len]
    omega
theorem back {M : Msg} (hm : MayP M) (hb : MsgB M) : POk (bodyM M) ∧ MLike (prsM (bodyM M)) M := by
  obtain ⟨hF0, hF5, hF6, hF7, hF8, hF9, hF10, hni, hnl, hnd⟩ := hm.bd
  have hF1 := hm.f1
  have hF2 := hb.f2
  have hF3 := hb.f3
  have hF4 := hb.f4
  have hF11 := hb.f11
  have hF12 := hb.f12
  have t18 : pS19 M = pS18 M ++ M.d ++ [] := by rw [List.append_nil, pS19]
  have t17 := pre_up (pre_as t18) (by rw [pS18] : pS18 M = pS17 M M.nl ++ pt M 10 M.d.length 1)
  have t16 := pre_up (pre_as t17) (by rw [pS17] : pS17 M M.nl = pS16 M ++ logW M.D M.nl)
  have t15 := pre_up (pre_as t16) (by rw [pS16] : pS16 M = pS15 M M.ni ++ pt M 9 M.nl 1)
  have t14 := pre_up (pre_as t15) (by rw [pS15] : pS15 M M.ni = pS14 M ++ inpsW M.I M.ni)
  have t13 := pre_up (pre_as t14) (by rw [pS14] : pS14 M = pS13 M ++ pt M 8 M.ni 1)
  have t12 := pre_up (pre_as t13) (by rw [pS13] : pS13 M = pS12 M ++ pt M 7 (M.F 12) 8)
  have t11 := pre_up (pre_as t12) (by rw [pS12] : pS12 M = pS11 M ++ pt M 6 (M.F 11) 4)
  have t10 := pre_up (pre_as t11) (by rw [pS11] : pS11 M = pS10 M ++ pt M 5 (M.F 10) 2)
  have t9 := pre_up (pre_as t10) (by rw [pS10] : pS10 M = pS9 M ++ pt M 4 (M.F 9) 2)
  have t8 := pre_up (pre_as t9) (by rw [pS9] : pS9 M = pS8 M ++ pt M 3 (M.F 8) 1)
  have t7 := pre_up (pre_as t8) (by rw [pS8] : pS8 M = pS7 M ++ pt M 2 (M.F 7) 4)
  have t6 := pre_up (pre_as t7) (by rw [pS7] : pS7 M = pS6 M ++ pt M 1 (M.F 6) 2)
  have t5 := pre_up (pre_as t6) (by rw [pS6] : pS6 M = pS5 M ++ pt M 0 (M.F 5) 1)
  have t4 := pre_up (pre_as t5) (by rw [pS5] : pS5 M = pS4 M ++ leB (M.F 4) 4)
  have t3 := pre_up (pre_as t4) (by rw [pS4] : pS4 M = pS3 M ++ leB (M.F 3) 2)
  have t2 := pre_up (pre_as t3) (by rw [pS3] : pS3 M = pS2 M ++ leB (M.F 2) 2)
  have t1 := pre_up (pre_as t2) (by rw [pS2] : pS2 M = pS1 M ++ leB (M.F 1) 1)
  have t0 := pre_up (pre_as t1) (by rw [pS1] : pS1 M = pS0 M ++ leB (M.F 0) 1)
  have l0 : (pS0 M).length = 4 := by rw [pS0, leB_len]
  have l1 : (pS1 M).length = 5 := by rw [pS1, List.length_append, leB_len, l0]
  have l2 : (pS2 M).length = 6 := by rw [pS2, List.length_append, leB_len, l1]
  have l3 : (pS3 M).length = 8 := by rw [pS3, List.length_append, leB_len, l2]
  have l4 : (pS4 M).length = 10 := by rw [pS4, List.length_append, leB_len, l3]
  have l5 : (pS5 M).length = 14 := pS5_len M
  have v0 := rd_num _ _ t0 (by omega) (by omega)
  have v1 := rd_num _ _ t1 (by omega) (by omega)
  have v2 := rd_num _ _ t2 (by omega) (by omega)
  have v3 := rd_num _ _ t3 (by omega) (by omega)
  have v4 := rd_num _ _ t4 (by omega) (by omega)
  rw [l0] at v0
  rw [l1] at v1
  rw [l2] at v2
  rw [l3] at v3
  rw [l4] at v4
  have hk : gK (bodyM M) = M.F 0 := by unfold gK; rw [leV_body]; exact v0
  have q5 : 4 + gPs (bodyM M) 0 = (pS5 M).length := l5.symm
  have z5 := part_back hk q5 t5 (fun _ => ⟨hF5.1, by omega⟩) (fun h => inB_z (by have := hm.b0; rwa [h] at this))
  have z6 := part_back (i := gPs (bodyM M) 1) hk (z5.2.trans (by rw [pS6])) t6 (fun _ => ⟨hF6.1, by omega⟩) (fun h => inB_z (by have := hm.b1; rwa [h] at this))
  have z7 := part_back (i := gPs (bodyM M) 2) hk (z6.2.trans (by rw [pS7])) t7 (fun _ => ⟨hF7.1, by omega⟩) (fun h => inB_z (by have := hm.b2; rwa [h] at this))
  have z8 := part_back (i := gPs (bodyM M) 3) hk (z7.2.trans (by rw [pS8])) t8 (fun _ => ⟨hF8.1, by omega⟩) (fun h => inB_z (by have := hm.b3; rwa [h] at this))
  have z9 := part_back (i := gPs (bodyM M) 4) hk (z8.2.trans (by rw [pS9])) t9 (fun _ => ⟨hF9.1, by omega⟩) (fun h => inB_z (by have := hm.b4; rwa [h] at this))
  have z10 := part_back (i := gPs (bodyM M) 5) hk (z9.2.trans (by rw [pS10])) t10 (fun _ => ⟨hF10.1, by omega⟩) (fun h => inB_z (by have := hm.b5; rwa [h] at this))
  have z11 := part_back (i := gPs (bodyM M) 6) hk (z10.2.trans (by rw [pS11])) t11 (fun _ => ⟨hF11.1, by omega⟩) (fun h => hm.b6.resolve_left (by rw [h]; exact Bool.false_ne_true))
  have z12 := part_back (i := gPs (bodyM M) 7) hk (z11.2.trans (by rw [pS12])) t12 (fun _ => ⟨hF12.1, by omega⟩) (fun h => hm.b7.resolve_left (by rw [h]; exact Bool.false_ne_true))
  have z13 := part_back (i := gPs (bodyM M) 8) hk (z12.2.trans (by rw [pS13])) t13 (fun _ => ⟨by omega, by omega⟩) (fun h => inB_z (by have := hm.b8; rwa [h] at this))
  have eNi : gNi (bodyM M) = M.ni := by unfold gNi; rw [z13.1]; rfl
  have q14 : 4 + gQi (bodyM M) = (pS14 M).length := by unfold gQi; exact z13.2.trans (by rw [pS14])
  have l15 : (pS15 M M.ni).length = (pS14 M).length + 3 * M.ni := by rw [pS15, List.length_append, inpsW_len]
  have q15 : 4 + gQl (bodyM M) = (pS15 M M.ni).length := by unfold gQl; rw [eNi]; omega
  have z15 := part_back (i := gQl (bodyM M)) hk q15 t15 (fun _ => ⟨by omega, by omega⟩) (fun h => inB_z (by have := hm.b9; rwa [h] at this))
  have eNl : gNl (bodyM M) = M.nl := by unfold gNl; rw [z15.1]; rfl
  have q16 : 4 + gQe (bodyM M) 0 = (pS16 M).length := z15.2.trans (by rw [pS16])
  have hlog := logOk_get M.nl hm.l
  have hent : ∀ m, m < M.nl → 4 + gQe (bodyM M) m = (pS16 M ++ logW M.D m).length → eLen (bodyM M) (gQe (bodyM M) m) = (entW (M.D m)).length ∧ eBy (bodyM M) (gQe (bodyM M) m) = entW (M.D m) := by
    intro m hml hq
    obtain ⟨r, hr⟩ := pre_logW M M.D (pS16 M) M.nl m hml
    have hlen := (entW_len (hlog m hml).1).2
    rw [hr] at t16
    have e1 : pS19 M = (pS16 M ++ logW M.D m) ++ leB ((entW (M.D m)).length : Int) 2 ++ (entW (M.D m) ++ (r ++ (pt M 10 M.d.length 1 ++ (M.d ++ [])))) := by rw [t16]; simp only [List.append_assoc]
    have e2 : pS19 M = ((pS16 M ++ logW M.D m) ++ leB ((entW (M.D m)).length : Int) 2) ++ entW (M.D m) ++ (r ++ (pt M 10 M.d.length 1 ++ (M.d ++ []))) := by rw [t16]; simp only [List.append_assoc]
    have hle : eLen (bodyM M) (gQe (bodyM M) m) = (entW (M.D m)).length := by
      unfold eLen
      rw [leV_body, hq, rd_num _ 2 e1 (by omega) (by omega)]
      rfl
    refine ⟨hle, ?_⟩
    unfold eBy
    rw [hle, drop_body, show 4 + (gQe (bodyM M) m + 2) = ((pS16 M ++ logW M.D m) ++ leB ((entW (M.D m)).length : Int) 2).length by rw [List.length_append, leB_len, ← hq]; omega, e2]
    exact take_mid _ _ _
  have hQ : ∀ m, m ≤ M.nl → 4 + gQe (bodyM M) m = (pS16 M ++ logW M.D m).length := by
    intro m
    induction m with
    | zero => intro _; rw [q16, logW, List.append_nil]
    | succ m ih =>
      intro hml
      have h1 := ih (by omega)
      have h2 := (hent m (by omega) h1).1
      show 4 + (gQe (bodyM M) m + 2 + eLen (bodyM M) (gQe (bodyM M) m)) = _
      rw [h2, logW]
      simp only [List.length_append, leB_len] at h1 ⊢
      omega
  have q17 : 4 + gQd (bodyM M) = (pS17 M M.nl).length := by unfold gQd; rw [eNl, hQ _ (Nat.le_refl _), pS17]
  have z17 := part_back (i := gQd (bodyM M)) hk q17 t17 (fun _ => ⟨by omega, by omega⟩) (fun h => inB_z (by have := hm.b10; rwa [h] at this))
  have eNd : gNd (bodyM M) = M.d.length := by unfold gNd; rw [z17.1]; rfl
  have q18 : 4 + gQt (bodyM M) = (pS18 M).length := by unfold gQt; exact z17.2.trans (by rw [pS18])
  have eD : gDt (bodyM M) = M.d := by
    unfold gDt
    rw [eNd, drop_body, q18, t18]
    exact take_mid _ _ _
  have hLE : ∀ m, m < M.nl → OkG (eBy (bodyM M) (gQe (bodyM M) m)) ∧ ELike (gD (bodyM M) m) (M.D m) := by
    intro m hml
    have h1 := (hent m hml (hQ m (by omega))).2
    have h2 := put_back (hlog m hml).1 (hb.e m hml)
    unfold gD
    rw [h1]
    obtain ⟨s1, s2, s3, s4⟩ := sameB_iff h2.2
    exact ⟨h2.1, ⟨s1, s2, s3, s4⟩⟩
  refine ⟨⟨?_, fun m hml => (hLE m (by rw [← eNl]; exact hml)).1⟩, ⟨?_, eNi, ?_, eNl, fun m hml => (hLE m (by rw [← eNl]; exact hml)).2, eD⟩⟩
  · have := body_len M
    have e3 : (pS19 M).length = (pS18 M).length + M.d.length := by rw [pS19, List.length_append]
    unfold gEnd
    omega
  · intro k hk13
    show gF (bodyM M) k = M.F k
    rcases (by omega : k = 0 ∨ k = 1 ∨ k = 2 ∨ k = 3 ∨ k = 4 ∨ k = 5 ∨ k = 6 ∨ k = 7 ∨ k = 8 ∨ k = 9 ∨ k = 10 ∨ k = 11 ∨ k = 12) with rfl | rfl | rfl | rfl | rfl | rfl | rfl | rfl | rfl | rfl | rfl | rfl | rfl
    · exact hk
    · exact (leV_body M 1 1).trans v1
    · exact (leV_body M 2 2).trans v2
    · exact (leV_body M 4 2).trans v3
    · exact (leV_body M 6 4).trans v4
    · exact z5.1
    · exact z6.1
    · exact z7.1
    · exact z8.1
    · exact z9.1
    · exact z10.1
    · exact z11.1
    · exact z12.1
  · intro k hkn
    have hkn' : k < 3 * M.ni := by rw [← eNi]; exact hkn
    show gIn (bodyM M) k = M.I k
    have key : zz (bodyM M) (gQi (bodyM M) + k) = zz (inp3 M.I (k / 3)) (k % 3) := by
      rw [zz_body, t14, List.append_assoc, zz_app_r _ _ _ k (by omega), zz_app_l _ _ _ (by rw [inpsW_len]; exact hkn')]
      have := zz_inpsW M.I (k % 3) (Nat.mod_lt _ (by omega)) M.ni (k / 3) (by omega)
      rw [show 3 * (k / 3) + k % 3 = k by omega] at this
      exact this
    unfold gIn
    rw [key]
    have hxy := hb.xy (k / 3) (by omega)
    rcases (by omega : k % 3 = 0 ∨ k % 3 = 1 ∨ k % 3 = 2) with e | e | e
    · rw [if_neg (by omega), e]
      show sgn (M.I (k / 3 * 3) % 256) = M.I k
      rw [show k / 3 * 3 = k by omega] at hxy ⊢
      unfold sgn
      split <;> omega
    · rw [if_neg (by omega), e]
      show sgn (M.I (k / 3 * 3 + 1) % 256) = M.I k
      rw [show k / 3 * 3 + 1 = k by omega] at hxy ⊢
      unfold sgn
      split <;> omega
    · rw [if_pos e, e]
      show M.I (k / 3 * 3 + 2) = M.I k
      rw [show k / 3 * 3 + 2 = k by omega]
/-- What Put writes Get takes for a message like it. -/
theorem ok_put {M : Msg} (hm : mayM M = true) (hb : MsgB M) (hl : (putM M).length ≤ 1200) : SumOk (putM M) ∧ OkM (putM M) ∧ (putM M).drop 4 = bodyM M := by
  obtain ⟨h1, h2⟩ := back ((mayM_iff M).1 hm) hb
  have hd : (putM M).drop 4 = bodyM M := by
    rw [putM_eq]
    have : (leB ((crc (bodyM M) (bodyM M).length : Nat) : Int) 4).length = 4 := leB_len _ 4
    exact List.drop_left' this
  have hc := crc_lt (bodyM M) (bodyM_by hb) (bodyM M).length
  refine ⟨⟨?_, ?_⟩, ⟨?_, ?_, ?_, ?_⟩, hd⟩
  · rw [putM_eq, List.length_append, leB_len]; omega
  · rw [hd]
    generalize hx : ((crc (bodyM M) (bodyM M).length : Nat) : Int) = x at *
    have := rd_num (T := putM M) (s := []) (r := bodyM M) x 4 (by rw [putM_eq, hx]; rfl) (by omega) (by omega)
    exact this
  · rw [hd]; exact h1
  · rw [hd, h2.may]; exact hm
  · rw [hd, h2.put.2]; exact hl
  · rw [hd, h2.put.2]
end Go.Proofs.Ytembppihfcclcaa

namespace Go.Proofs.Ytembppihfcclcaa
set_option linter.unusedVariables false
open Go.ChangeShapes Go.WideShapes Go.ChangeAt Go.RowKit

set_option linter.unusedSimpArgs false
/-- n bytes from place p on. -/
def sl (bs : List Int) (p n : Nat) : List Int := (bs.drop p).take n
theorem sl_app (bs : List Int) (p n m : Nat) : sl bs p n ++ sl bs (p + n) m = sl bs p (n + m) := by
  unfold sl
  rw [List.take_add, List.drop_drop]
theorem sl_to (bs : List Int) (p q r : Nat) (h1 : p ≤ q) (h2 : q ≤ r) : sl bs p (q - p) ++ sl bs q (r - q) = sl bs p (r - p) := by
  have := sl_app bs p (q - p) (r - q)
  rw [show p + (q - p) = q by omega, show q - p + (r - q) = r - p by omega] at this
  exact this
theorem sl_len {bs : List Int} {p n : Nat} (h : p + n ≤ bs.length) : (sl bs p n).length = n := by
  unfold sl
  rw [List.length_take, List.length_drop]
  omega
theorem sl_zz {bs : List Int} {p n i : Nat} (h : i < n) : zz (sl bs p n) i = zz bs (p + i) := by
  unfold sl zz
  rw [List.getD_eq_getElem?_getD, List.getD_eq_getElem?_getD, List.getElem?_take, if_pos h, List.getElem?_drop]
theorem zz_leB (n : Int) : ∀ c i, i < c → zz (leB n c) i = n / 256 ^ i % 256
  | 0, i, h => by omega
  | c + 1, i, h => by
    unfold leB
    by_cases e : i = c
    · subst e
      rw [zz_app_r _ _ i 0 (by rw [leB_len, Nat.add_zero]), shN_div]
      rfl
    · rw [zz_app_l _ _ _ (by rw [leB_len]; omega)]
      exact zz_leB n c i (by omega)
theorem leV_digit {bs : List Int} (hby : ByteL bs) : ∀ c p i, i < c → leV bs p c / 256 ^ i % 256 = zz bs (p + i)
  | 0, p, i, h => by omega
  | c + 1, p, 0, h => by
    have := hby p
    rw [leV_front, Int.pow_zero, Int.ediv_one]
    show (zz bs p + 256 * leV bs (p + 1) c) % 256 = zz bs p
    omega
  | c + 1, p, i + 1, h => by
    have := hby p
    rw [leV_front, show (256 : Int) ^ (i + 1) = 256 * 256 ^ i by rw [Int.pow_succ, Int.mul_comm], ← Int.ediv_ediv_of_nonneg (by decide)]
    rw [show (zz bs p + 256 * leV bs (p + 1) c) / 256 = leV bs (p + 1) c by omega, leV_digit hby c (p + 1) i (by omega), show p + 1 + i = p + (i + 1) by omega]
theorem leB_leV {bs : List Int} (hby : ByteL bs) {p c : Nat} (h : p + c ≤ bs.length) : leB (leV bs p c) c = sl bs p c := by
  have hl : (leB (leV bs p c) c).length = (sl bs p c).length := by rw [leB_len, sl_len h]
  refine getD_eq_of hl (fun i hi => ?_)
  rw [leB_len] at hi
  show zz (leB _ _) i = zz (sl bs p c) i
  rw [zz_leB _ _ _ hi, leV_digit hby _ _ _ hi, sl_zz hi]
theorem leB_nat {bs : List Int} (hby : ByteL bs) {p c : Nat} (h : p + c ≤ bs.length) : leB ((leV bs p c).toNat : Int) c = sl bs p c := by
  rw [show ((leV bs p c).toNat : Int) = leV bs p c from Int.toNat_of_nonneg (leV_nn hby p c)]
  exact leB_leV hby h
theorem partB_num (M : Msg) (j : Nat) (hj : j < 8) : partB M j = leB (M.F (5 + j)) (wdt j) := by
  rcases (by omega : j = 0 ∨ j = 1 ∨ j = 2 ∨ j = 3 ∨ j = 4 ∨ j = 5 ∨ j = 6 ∨ j = 7) with rfl | rfl | rfl | rfl | rfl | rfl | rfl | rfl <;> rfl
theorem gF_part (bs : List Int) (j : Nat) : gF bs (5 + j) = gV bs j := by
  unfold gF
  rw [if_neg (by omega), if_neg (by omega), if_neg (by omega), if_neg (by omega), if_neg (by omega), show 5 + j - 5 = j by omega]
theorem head_sl {bs : List Int} (hby : ByteL bs) (h : 10 ≤ bs.length) : headW (prsM bs) = sl bs 0 10 := by
  have e : headW (prsM bs) = leB (leV bs 0 1) 1 ++ leB (leV bs 1 1) 1 ++ leB (leV bs 2 2) 2 ++ leB (leV bs 4 2) 2 ++ leB (leV bs 6 4) 4 := rfl
  rw [e, leB_leV hby (by omega), leB_leV hby (by omega), leB_leV hby (by omega), leB_leV hby (by omega), leB_leV hby (by omega)]
  have h1 := sl_app bs 0 1 1
  have h2 := sl_app bs 0 2 2
  have h3 := sl_app bs 0 4 2
  have h4 := sl_app bs 0 6 4
  rw [h1, h2, h3, h4]
theorem segs_num {bs : List Int} (hby : ByteL bs) (hl : gPs bs 8 ≤ bs.length) : ∀ n, n ≤ 8 → headW (prsM bs) ++ segs (prsM bs) n = sl bs 0 (gPs bs n)
  | 0, _ => by
    have : gPs bs 0 ≤ gPs bs 8 := gPs_mono bs 0 8 (by omega)
    rw [head_sl hby (by have : gPs bs 0 = 10 := rfl; omega)]
    show _ ++ [] = _
    rw [List.append_nil]
    rfl
  | n + 1, h => by
    have hm := gPs_mono bs (n + 1) 8 h
    have hs : gPs bs (n + 1) = gPs bs n + (if hasB (gK bs) n then wdt n else 0) := rfl
    show headW (prsM bs) ++ (segs (prsM bs) n ++ segM (prsM bs) n) = _
    rw [← List.append_assoc, segs_num hby hl n (by omega)]
    unfold segM
    have hk : (prsM bs).F 0 = gK bs := rfl
    rw [hk]
    cases hh : hasB (gK bs) n
    · rw [hh] at hs
      simp only [Bool.false_eq_true, if_false, Nat.add_zero] at hs ⊢
      rw [List.append_nil, hs]
    · rw [hh] at hs
      simp only [if_true] at hs ⊢
      rw [partB_num _ _ (by omega)]
      have hf : (prsM bs).F (5 + n) = leV bs (gPs bs n) (wdt n) := by
        show gF bs (5 + n) = _
        rw [gF_part]
        unfold gV
        rw [hh]
        rfl
      rw [hf, leB_leV hby (by omega), hs]
      have := sl_app bs 0 (gPs bs n) (wdt n)
      rwa [Nat.zero_add] at this
theorem sgn_modW (x : Int) (h : 0 ≤ x ∧ x < 256) : sgn x % 256 = x := by unfold sgn; split <;> omega
theorem inps_sl {bs : List Int} (hby : ByteL bs) : ∀ n, gQi bs + 3 * n ≤ bs.length → inpsW (gIn bs) n = sl bs (gQi bs) (3 * n)
  | 0, _ => by unfold inpsW sl; simp
  | n + 1, h => by
    unfold inpsW
    rw [inps_sl hby n (by omega), show 3 * (n + 1) = 3 * n + 3 by omega, ← sl_app]
    congr 1
    have hl : (inp3 (gIn bs) n).length = (sl bs (gQi bs + 3 * n) 3).length := by rw [sl_len (by omega)]; rfl
    refine getD_eq_of hl (fun i hi => ?_)
    have hi3 : i < 3 := hi
    show zz (inp3 (gIn bs) n) i = zz (sl bs _ 3) i
    rw [sl_zz hi3]
    rcases (by omega : i = 0 ∨ i = 1 ∨ i = 2) with rfl | rfl | rfl
    · show gIn bs (n * 3) % 256 = _
      unfold gIn
      rw [if_neg (by omega), sgn_modW _ (hby _), show gQi bs + n * 3 = gQi bs + 3 * n + 0 by omega]
    · show gIn bs (n * 3 + 1) % 256 = _
      unfold gIn
      rw [if_neg (by omega), sgn_modW _ (hby _), show gQi bs + (n * 3 + 1) = gQi bs + 3 * n + 1 by omega]
    · show gIn bs (n * 3 + 2) = _
      unfold gIn
      rw [if_pos (by omega), show gQi bs + (n * 3 + 2) = gQi bs + 3 * n + 2 by omega]
theorem log_sl {bs : List Int} (hby : ByteL bs) (hok : ∀ m, m < gNl bs → OkG (eBy bs (gQe bs m))) : ∀ n, n ≤ gNl bs → gQe bs n ≤ bs.length → logW (gD bs) n = sl bs (gQe bs 0) (gQe bs n - gQe bs 0)
  | 0, _, _ => by unfold logW sl; simp
  | n + 1, hn, hl => by
    have hs : gQe bs (n + 1) = gQe bs n + 2 + eLen bs (gQe bs n) := rfl
    have hm := gQe_mono bs 0 n (Nat.zero_le _)
    unfold logW
    have he : entW (gD bs n) = eBy bs (gQe bs n) := (hok n (by omega)).2.2
    have hel : (eBy bs (gQe bs n)).length = eLen bs (gQe bs n) := sl_len (p := gQe bs n + 2) (by omega)
    rw [he, hel, log_sl hby hok n (by omega) (by omega)]
    have h2 : leB ((eLen bs (gQe bs n) : Nat) : Int) 2 = sl bs (gQe bs n) 2 := leB_nat hby (by omega)
    rw [h2]
    have e1 := sl_app bs (gQe bs n) 2 (eLen bs (gQe bs n))
    have e2 := sl_to bs (gQe bs 0) (gQe bs n) (gQe bs (n + 1)) hm (by omega)
    have e3 : eBy bs (gQe bs n) = sl bs (gQe bs n + 2) (eLen bs (gQe bs n)) := rfl
    rw [List.append_assoc, e3, e1, ← e2]
    congr 2
    omega
theorem body_prs {bs : List Int} (hby : ByteL bs) (hp : POk bs) (hm : MayP (prsM bs)) : bodyM (prsM bs) = bs.take (gEnd bs) := by
  obtain ⟨hl, hok⟩ := hp
  obtain ⟨g0, g1, g2, g3, g4, g5, g6⟩ := gEnd_ge bs
  rw [body_join hm, ← js_eq, ← segs_eq]
  have hk : (prsM bs).F 0 = gK bs := rfl
  show headW (prsM bs) ++ (segs (prsM bs) 8 ++ segM (prsM bs) 8 ++ segM (prsM bs) 9 ++ segM (prsM bs) 10) = _
  rw [← List.append_assoc, ← List.append_assoc, ← List.append_assoc, segs_num hby (by omega) 8 (Nat.le_refl _)]
  have a8 : sl bs 0 (gPs bs 8) ++ segM (prsM bs) 8 = sl bs 0 (gQl bs) := by
    unfold segM
    rw [hk]
    cases hh : hasB (gK bs) 8
    · have e : gQl bs = gPs bs 8 := by unfold gQl gQi gNi; rw [hh]; rfl
      rw [e]
      exact List.append_nil _
    · have e1 : gQi bs = gPs bs 8 + 1 := by unfold gQi; rw [hh]; rfl
      have e2 : gNi bs = (leV bs (gPs bs 8) 1).toNat := by unfold gNi; rw [hh]; rfl
      have e3 : gQl bs = gQi bs + 3 * gNi bs := rfl
      have ep : partB (prsM bs) 8 = leB ((gNi bs : Nat) : Int) 1 ++ inpsW (gIn bs) (gNi bs) := rfl
      have e4 : leB ((gNi bs : Nat) : Int) 1 = sl bs (gPs bs 8) 1 := by rw [e2]; exact leB_nat hby (by omega)
      have e5 := sl_app bs 0 (gPs bs 8) 1
      have e6 := sl_app bs 0 (gQi bs) (3 * gNi bs)
      rw [Nat.zero_add] at e5 e6
      simp only [if_true]
      rw [ep, e4, inps_sl hby _ (by omega), ← List.append_assoc, e5, ← e1, e6]
      rfl
  have a9 : sl bs 0 (gQl bs) ++ segM (prsM bs) 9 = sl bs 0 (gQd bs) := by
    unfold segM
    rw [hk]
    cases hh : hasB (gK bs) 9
    · have e0 : gNl bs = 0 := by unfold gNl; rw [hh]; rfl
      have e : gQd bs = gQl bs := by unfold gQd; rw [e0]; unfold gQe; rw [hh]; rfl
      rw [e]
      exact List.append_nil _
    · have e1 : gQe bs 0 = gQl bs + 1 := by unfold gQe; rw [hh]; rfl
      have e2 : gNl bs = (leV bs (gQl bs) 1).toNat := by unfold gNl; rw [hh]; rfl
      have e3 : gQd bs = gQe bs (gNl bs) := rfl
      have ep : partB (prsM bs) 9 = leB ((gNl bs : Nat) : Int) 1 ++ logW (gD bs) (gNl bs) := rfl
      have e4 : leB ((gNl bs : Nat) : Int) 1 = sl bs (gQl bs) 1 := by rw [e2]; exact leB_nat hby (by omega)
      have e5 := sl_app bs 0 (gQl bs) 1
      have e6 := sl_to bs 0 (gQe bs 0) (gQd bs) (Nat.zero_le _) g4
      rw [Nat.zero_add] at e5
      rw [Nat.sub_zero, Nat.sub_zero] at e6
      simp only [if_true]
      rw [ep, e4, log_sl hby hok _ (Nat.le_refl _) (by omega), ← List.append_assoc, e5, ← e1, ← e3, e6]
  have a10 : sl bs 0 (gQd bs) ++ segM (prsM bs) 10 = sl bs 0 (gEnd bs) := by
    unfold segM
    rw [hk]
    cases hh : hasB (gK bs) 10
    · have e : gEnd bs = gQd bs := by unfold gEnd gQt gNd; rw [hh]; rfl
      rw [e]
      exact List.append_nil _
    · have e1 : gQt bs = gQd bs + 1 := by unfold gQt; rw [hh]; rfl
      have e2 : gNd bs = (leV bs (gQd bs) 1).toNat := by unfold gNd; rw [hh]; rfl
      have e3 : gEnd bs = gQt bs + gNd bs := rfl
      have ed : (gDt bs).length = gNd bs := sl_len (p := gQt bs) (by omega)
      have ep : partB (prsM bs) 10 = leB (((gDt bs).length : Nat) : Int) 1 ++ gDt bs := rfl
      have e4 : leB ((gNd bs : Nat) : Int) 1 = sl bs (gQd bs) 1 := by rw [e2]; exact leB_nat hby (by omega)
      have e5 := sl_app bs 0 (gQd bs) 1
      have e6 := sl_app bs 0 (gQt bs) (gNd bs)
      have e7 : gDt bs = sl bs (gQt bs) (gNd bs) := rfl
      rw [Nat.zero_add] at e5 e6
      simp only [if_true]
      rw [ep, ed, e4, ← List.append_assoc, e5, ← e1, e7, e6, e3]
  rw [a8, a9, a10]
  rfl
theorem sum_iff {bs : List Int} (hby : ByteL bs) (h4 : 4 ≤ bs.length) : leB ((crc (bs.drop 4) (bs.drop 4).length : Nat) : Int) 4 = bs.take 4 ↔ SumOk bs := by
  have hc := crc_lt (bs.drop 4) (hby.dropE 4) (bs.drop 4).length
  have e : sl bs 0 4 = bs.take 4 := rfl
  constructor
  · intro h
    refine ⟨h4, ?_⟩
    have e2 : bs = [] ++ leB ((crc (bs.drop 4) (bs.drop 4).length : Nat) : Int) 4 ++ bs.drop 4 := by rw [h, List.nil_append, List.take_append_drop]
    exact rd_num (s := []) _ 4 e2 (Int.natCast_nonneg _) (by show _ < (256 : Int) ^ 4; omega)
  · rintro ⟨-, h⟩
    rw [← h, leB_leV hby (by omega), e]
theorem okM_iff {bs : List Int} (hby : ByteL bs) (hs : SumOk bs) : OkM bs ↔ (bs.length ≤ 1200 ∧ POk (bs.drop 4) ∧ gEnd (bs.drop 4) = (bs.drop 4).length ∧ mayM (prsM (bs.drop 4)) = true) := by
  have hby4 := hby.dropE 4
  constructor
  · rintro ⟨h1, h2, h3, h4⟩
    have hK := body_prs hby4 h1 ((mayM_iff _).1 h2)
    rw [h4] at h3
    refine ⟨h3, h1, ?_, h2⟩
    have h5 : bodyM (prsM (bs.drop 4)) = bs.drop 4 := by
      have := congrArg (List.drop 4) h4
      rw [putM_eq, List.drop_left' (leB_len _ 4)] at this
      exact this
    rw [h5] at hK
    have := congrArg List.length hK
    rw [List.length_take] at this
    have := h1.1
    omega
  · rintro ⟨h1, h2, h3, h4⟩
    have hK := body_prs hby4 h2 ((mayM_iff _).1 h4)
    rw [h3, List.take_length] at hK
    have h5 : putM (prsM (bs.drop 4)) = bs := by
      rw [putM_eq, hK, (sum_iff hby hs.1).2 hs, List.take_append_drop]
    exact ⟨h2, h4, by rw [h5]; exact h1, h5⟩
end Go.Proofs.Ytembppihfcclcaa

namespace Go.Proofs.Ytembppihfcclcaa
set_option linter.unusedVariables false
open Go.ChangeShapes Go.WideShapes Go.ChangeAt Go.RowKit

set_option linter.unusedSimpArgs false
def insEq (I I' : Nat → Int) : Nat → Bool
  | 0 => true
  | n + 1 => insEq I I' n && (I (n * 3) == I' (n * 3) && (I (n * 3 + 1) == I' (n * 3 + 1) && I (n * 3 + 2) == I' (n * 3 + 2)))
theorem insEq_mono (I I' : Nat → Int) (n m : Nat) (h : n ≤ m) (hb : insEq I I' n = false) : insEq I I' m = false := by
  induction m with
  | zero => have : n = 0 := by omega
            subst this; exact hb
  | succ m ih =>
    by_cases e : n = m + 1
    · subst e; exact hb
    · unfold insEq; rw [ih (by omega), Bool.false_and]
theorem insEq_iff (I I' : Nat → Int) : ∀ n, insEq I I' n = true ↔ ∀ k, k < 3 * n → I k = I' k := by
  intro n
  induction n with
  | zero => exact ⟨fun _ i hi => by omega, fun _ => rfl⟩
  | succ n ih =>
    unfold insEq
    simp only [Bool.and_eq_true, beq_iff_eq, ih]
    constructor
    · rintro ⟨h1, h2, h3, h4⟩ k hk
      by_cases e : k < 3 * n
      · exact h1 k e
      · rcases (by omega : k = n * 3 ∨ k = n * 3 + 1 ∨ k = n * 3 + 2) with rfl | rfl | rfl <;> assumption
    · intro h
      exact ⟨fun k hk => h k (by omega), h _ (by omega), h _ (by omega), h _ (by omega)⟩
set_option maxHeartbeats 1000000 in
theorem eqIn_any (n n' : Nat) (I I' : Nat → Int) (sv sv' : Value) (w : World) (h : InpsV w sv n I) (h' : InpsV w sv' n' I') :
    Calls Try.prog 50 #[sv, sv'] w fun e w' => e = .returned (.bool (decide (n = n') && insEq I I' n)) ∧ Below w.heap.size w w' := by
  obtain ⟨a, cap, rfl, hnc, hcm, hev⟩ := h
  obtain ⟨a', cap', rfl, hnc', hcm', hev'⟩ := h'
  unfold maxLen at hcm hcm'
  by_cases hnn : n = n'
  · subst hnn
    have bnn : ((n : Int) == (n : Int)) = true := by simp
    rw [decide_eq_true rfl, Bool.true_and]
    have HEV := Lib.hid hev
    have HEV' := Lib.hid hev'
    clear hev hev'
    go_enter Try.func50, Try.ntmps50
    go_wp2_with fail
    go_loopw [13] (fun i wr => ∃ k : Nat, k ≤ n ∧ i = .int .i64 k ∧ insEq I I' k = true ∧ Below w.heap.size w wr) (fun i _ => n - (intOf i).toNat)
    case atStart => exact ⟨0, by omega, rfl, rfl, Below.refl _ _⟩
    case round =>
      obtain ⟨k, hk, rfl, hok, hB⟩ := hrel
      have HB := Lib.hid hB
      have HOK := Lib.hid hok
      clear hok
      by_cases hlt : k < n
      · obtain ⟨b, o, rfl, hbl, hin⟩ := HEV.out (by omega)
        obtain ⟨b', o', rfl, hbl', hin'⟩ := HEV'.out (by omega)
        have he := hin.block (hB.block b hbl)
        have he' := hin'.block (hB.block b' hbl')
        have d0 := cell_regrown (he.x k hlt)
        have d1 := cell_regrown (he.y k hlt)
        have d2 := cell_regrown (he.z k hlt)
        have d0' := cell_regrown (he'.x k hlt)
        have d1' := cell_regrown (he'.y k hlt)
        have d2' := cell_regrown (he'.z k hlt)
        have hki : (k : Int) < (n : Int) := by omega
        have HN : Hid (insEq I I' (k + 1) = (insEq I I' k && (I (k * 3) == I' (k * 3) && (I (k * 3 + 1) == I' (k * 3 + 1) && I (k * 3 + 2) == I' (k * 3 + 2))))) := Lib.hid rfl
        have HMono := Lib.hid (insEq_mono I I' (k + 1) n (by omega))
        clear hB he he' hin hin'
        generalize I (k * 3) = x0 at *
        generalize I (k * 3 + 1) = x1 at *
        generalize I (k * 3 + 2) = x2 at *
        generalize I' (k * 3) = y0 at *
        generalize I' (k * 3 + 1) = y1 at *
        generalize I' (k * 3 + 2) = y2 at *
        rcases hb0 : (x0 == y0) with _ | _
        · have hrel : insEq I I' (k + 1) = false := by rw [HN.out, hb0]; simp
          have HRel := Lib.hid (HMono.out hrel)
          clear hrel HN
          go_wp2_with fail
          refine wp_region_quiet_below (by kernel_rfl) (by kernel_rfl) ?_
          repeat (go_big_quiet_step (fail))
          refine wpQuiet_nil ?_
          intro w10 hw'
          obtain ⟨⟨nq, osq⟩, hw3⟩ := hw'
          have HW := Lib.hid (HB.out.trans ((below_regrown _ nq osq).mono HB.out.size))
          rw [← hw3] at HW
          clear hw3 d0 d1 d2 d0' d1' d2' HB
          go_wp2_with fail
          go_ret
          exact ⟨by rw [HRel.out]; rfl, HW.out⟩
        have e0 := eq_of_beq hb0
        subst e0
        rcases hb1 : (x1 == y1) with _ | _
        · have hrel : insEq I I' (k + 1) = false := by rw [HN.out, hb1]; simp
          have HRel := Lib.hid (HMono.out hrel)
          clear hrel HN
          go_wp2_with fail
          refine wp_region_quiet_below (by kernel_rfl) (by kernel_rfl) ?_
          repeat (go_big_quiet_step (fail))
          refine wpQuiet_nil ?_
          intro w10 hw'
          obtain ⟨⟨nq, osq⟩, hw3⟩ := hw'
          have HW := Lib.hid (HB.out.trans ((below_regrown _ nq osq).mono HB.out.size))
          rw [← hw3] at HW
          clear hw3 d0 d1 d2 d0' d1' d2' HB
          go_wp2_with fail
          go_ret
          exact ⟨by rw [HRel.out]; rfl, HW.out⟩
        have e1 := eq_of_beq hb1
        subst e1
        rcases hb2 : (x2 == y2) with _ | _
        · have hrel : insEq I I' (k + 1) = false := by rw [HN.out, hb2]; simp
          have HRel := Lib.hid (HMono.out hrel)
          clear hrel HN
          go_wp2_with fail
          refine wp_region_quiet_below (by kernel_rfl) (by kernel_rfl) ?_
          repeat (go_big_quiet_step (fail))
          refine wpQuiet_nil ?_
          intro w10 hw'
          obtain ⟨⟨nq, osq⟩, hw3⟩ := hw'
          have HW := Lib.hid (HB.out.trans ((below_regrown _ nq osq).mono HB.out.size))
          rw [← hw3] at HW
          clear hw3 d0 d1 d2 d0' d1' d2' HB
          go_wp2_with fail
          go_ret
          exact ⟨by rw [HRel.out]; rfl, HW.out⟩
        have e2 := eq_of_beq hb2
        subst e2
        have hrel : insEq I I' (k + 1) = true := by rw [HN.out, HOK.out]; simp
        have HRel := Lib.hid hrel
        clear hrel HN
        go_wp2_with fail
        refine wp_region_quiet_below (by kernel_rfl) (by kernel_rfl) ?_
        repeat (go_big_quiet_step (fail))
        refine wpQuiet_nil ?_
        intro w10 hw'
        obtain ⟨⟨nq, osq⟩, hw3⟩ := hw'
        have HW := Lib.hid (HB.out.trans ((below_regrown _ nq osq).mono HB.out.size))
        rw [← hw3] at HW
        clear hw3 d0 d1 d2 d0' d1' d2' HB
        go_wp2_with fail
        all_goals first | exact ⟨⟨k + 1, by omega, by go_num, HRel.out, HW.out⟩, by simp [intOf]; omega⟩ | exact ⟨k + 1, by omega, by go_num, HRel.out, HW.out⟩ | (simp [intOf]; omega) | go_roundw
      · obtain rfl : k = n := by omega
        go_wp2_with fail
        go_ret
        exact ⟨by rw [HOK.out]; rfl, hB⟩
  · have bnn : ((n : Int) == (n' : Int)) = false := by rw [beq_eq_false_iff_ne]; omega
    rw [decide_eq_false hnn, Bool.false_and]
    clear hev hev'
    go_enter Try.func50, Try.ntmps50
    go_wp2_with fail
    go_ret
    exact ⟨rfl, Below.refl _ _⟩
/-- Are the numbers of two messages the same? -/
def numB (F G : Nat → Int) : Nat → Bool
  | 0 => true
  | k + 1 => numB F G k && F k == G k
theorem numB_iff (F G : Nat → Int) : ∀ n, numB F G n = true ↔ ∀ k, k < n → F k = G k := by
  intro n
  induction n with
  | zero => exact ⟨fun _ i hi => by omega, fun _ => rfl⟩
  | succ n ih =>
    unfold numB
    simp only [Bool.and_eq_true, beq_iff_eq, ih]
    constructor
    · rintro ⟨h1, h2⟩ k hk
      by_cases e : k = n
      · subst e; exact h2
      · exact h1 k (by omega)
    · intro h
      exact ⟨fun k hk => h k (by omega), h n (by omega)⟩
theorem numB_no (F G : Nat → Int) {k : Nat} (hk : k < 13) (h : F k ≠ G k) : numB F G 13 = false := by
  cases e : numB F G 13
  · rfl
  · exact absurd ((numB_iff F G 13).1 e k hk) h
def sameM (M N : Msg) : Bool := numB M.F N.F 13 && ((decide (M.ni = N.ni) && insEq M.I N.I M.ni) && ((decide (M.nl = N.nl) && entsEq M.D N.D M.nl) && decide (M.d = N.d)))
end Go.Proofs.Ytembppihfcclcaa
