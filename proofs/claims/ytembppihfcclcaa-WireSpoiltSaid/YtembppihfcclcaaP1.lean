/-
  Wire: the sum of bytes, in plain words: a turned byte, four turned bytes.
-/
import Derived.Test.YtembppihfcclcaaMA
namespace Go.Proofs.Ytembppihfcclcaa
set_option linter.unusedVariables false
open Go.ChangeShapes Go.WideShapes Go.ChangeAt Go.RowKit

set_option linter.unusedSimpArgs false
theorem xor_four (a b c d : Nat) : a ^^^ b ^^^ (c ^^^ d) = a ^^^ c ^^^ (b ^^^ d) := by ac_rfl
theorem cst_lin (a b : Nat) (ha : a < 4294967296) (hb : b < 4294967296) : cst (a ^^^ b) = cst a ^^^ cst b := by
  have h1 : (a ^^^ b) * 2 % 4294967296 = (a * 2 % 4294967296) ^^^ (b * 2 % 4294967296) := by
    have e : (a ^^^ b) * 2 = (a * 2) ^^^ (b * 2) := by
      have := Nat.shiftLeft_xor_distrib (a := a) (b := b) (i := 1)
      rw [Nat.shiftLeft_eq, Nat.shiftLeft_eq, Nat.shiftLeft_eq] at this
      exact this
    rw [e]
    exact Nat.xor_mod_two_pow (n := 32)
  have h2 : (a ^^^ b) / 2147483648 = (a / 2147483648) ^^^ (b / 2147483648) := Nat.xor_div_two_pow (n := 31)
  have h3 : ∀ u v : Nat, u < 2 → v < 2 → (u ^^^ v) * 1947962583 = (u * 1947962583) ^^^ (v * 1947962583) := by
    intro u v hu hv
    rcases (by omega : u = 0 ∨ u = 1) with rfl | rfl <;> rcases (by omega : v = 0 ∨ v = 1) with rfl | rfl <;> decide
  unfold cst
  rw [h1, h2, h3 _ _ (by omega) (by omega)]
  exact xor_four _ _ _ _
theorem xor_zero_eq {a b : Nat} (h : a ^^^ b = 0) : a = b := by
  have : a ^^^ (a ^^^ b) = a := by rw [h, Nat.xor_zero]
  rw [← Nat.xor_assoc, Nat.xor_self, Nat.zero_xor] at this
  exact this.symm
theorem cst_z0 (x c : Nat) (h : c < 4294967296) (hx : c * 2 % 4294967296 = x) (hq : c / 2147483648 = 0) (e : x = 0) : c = 0 := by omega
theorem cst_z1 (x c : Nat) (hx : c * 2 % 4294967296 = x) (e : x = 1947962583) : False := by
  have : x % 2 = 0 := by omega
  omega
theorem cst_z2 (q c : Nat) (h : c < 4294967296) (hq : c / 2147483648 = q) : q = 0 ∨ q = 1 := by omega
theorem cst_zero_aux (x q c : Nat) (h : c < 4294967296) (hx : c * 2 % 4294967296 = x) (hq : c / 2147483648 = q) (e : x = q * 1947962583) : c = 0 := by
  rcases cst_z2 q c h hq with e' | e'
  · rw [e', Nat.zero_mul] at e
    exact cst_z0 x c h hx (hq.trans e') e
  · rw [e', Nat.one_mul] at e
    exact (cst_z1 x c hx e).elim
theorem cst_zero (c : Nat) (h : c < 4294967296) (hz : cst c = 0) : c = 0 :=
  cst_zero_aux _ _ c h rfl rfl (xor_zero_eq hz)
theorem cst8_lin : ∀ n a b, a < 4294967296 → b < 4294967296 → cst8 n (a ^^^ b) = cst8 n a ^^^ cst8 n b
  | 0, _, _, _, _ => rfl
  | n + 1, a, b, ha, hb => by
    show cst (cst8 n (a ^^^ b)) = cst (cst8 n a) ^^^ cst (cst8 n b)
    rw [cst8_lin n a b ha hb, cst_lin _ _ (cst8_lt n a ha) (cst8_lt n b hb)]
theorem cst8_zero : ∀ n c, c < 4294967296 → cst8 n c = 0 → c = 0
  | 0, _, _, h => h
  | n + 1, c, hc, h => cst8_zero n c hc (cst_zero _ (cst8_lt n c hc) h)
theorem cst8_inj (n a b : Nat) (ha : a < 4294967296) (hb : b < 4294967296) (h : cst8 n a = cst8 n b) : a = b := by
  have h1 := cst8_lin n a b ha hb
  rw [h, Nat.xor_self] at h1
  exact xor_zero_eq (cst8_zero n _ (Nat.xor_lt_two_pow (n := 32) ha hb) h1)
theorem cst_dbl (c : Nat) (h : c < 2147483648) : cst c = c * 2 := by
  unfold cst
  rw [Nat.div_eq_of_lt h, Nat.zero_mul, Nat.xor_zero]
  omega
theorem cst8_small (c : Nat) (h : c < 16777216) : cst8 8 c = c * 256 := by
  show cst (cst (cst (cst (cst (cst (cst (cst c))))))) = _
  rw [cst_dbl c (by omega), cst_dbl (c * 2) (by omega), cst_dbl (c * 2 * 2) (by omega), cst_dbl (c * 2 * 2 * 2) (by omega), cst_dbl (c * 2 * 2 * 2 * 2) (by omega), cst_dbl (c * 2 * 2 * 2 * 2 * 2) (by omega), cst_dbl (c * 2 * 2 * 2 * 2 * 2 * 2) (by omega), cst_dbl (c * 2 * 2 * 2 * 2 * 2 * 2 * 2) (by omega)]
  omega
theorem crc_same {bs bs' : List Int} : ∀ n, (∀ i, i < n → zz bs i = zz bs' i) → crc bs n = crc bs' n
  | 0, _ => rfl
  | n + 1, h => by
    show cst8 8 (crc bs n ^^^ ((zz bs n).toNat * 16777216)) = cst8 8 (crc bs' n ^^^ ((zz bs' n).toNat * 16777216))
    rw [crc_same n (fun i hi => h i (by omega)), h n (by omega)]
theorem byte_top {bs : List Int} (h : ByteL bs) (n : Nat) : (zz bs n).toNat * 16777216 < 4294967296 := by have := h n; omega
theorem xor_lt32 {a b : Nat} (ha : a < 4294967296) (hb : b < 4294967296) : a ^^^ b < 4294967296 := Nat.xor_lt_two_pow (n := 32) ha hb
theorem xor_right {a b c : Nat} (h : a ^^^ c = b ^^^ c) : a = b := by
  have := congrArg (fun z => z ^^^ c) h
  simp only [Nat.xor_assoc, Nat.xor_self, Nat.xor_zero] at this
  exact this
/-- Sums that differ at a place differ for good, where the bytes behind it are the same. -/
theorem crc_stay {bs bs' : List Int} (hb : ByteL bs) (hb' : ByteL bs') (n : Nat) (hn : crc bs n ≠ crc bs' n) : ∀ k, (∀ i, n ≤ i → i < n + k → zz bs i = zz bs' i) → crc bs (n + k) ≠ crc bs' (n + k)
  | 0, _ => hn
  | k + 1, h => fun e => by
    have e' : cst8 8 (crc bs (n + k) ^^^ ((zz bs (n + k)).toNat * 16777216)) = cst8 8 (crc bs' (n + k) ^^^ ((zz bs' (n + k)).toNat * 16777216)) := e
    have h2 := cst8_inj 8 _ _ (xor_lt32 (crc_lt bs hb _) (byte_top hb _)) (xor_lt32 (crc_lt bs' hb' _) (byte_top hb' _)) e'
    rw [h (n + k) (by omega) (by omega)] at h2
    exact crc_stay hb hb' n hn k (fun i h1 h2 => h i h1 (by omega)) (xor_right h2)
/-- A turned byte turns the sum. -/
theorem crc_one {bs bs' : List Int} (hb : ByteL bs) (hb' : ByteL bs') (p L : Nat) (hp : p < L) (hne : zz bs p ≠ zz bs' p) (h : ∀ i, i < L → i ≠ p → zz bs i = zz bs' i) : crc bs L ≠ crc bs' L := by
  obtain ⟨k, rfl⟩ : ∃ k, L = p + 1 + k := ⟨L - (p + 1), by omega⟩
  refine crc_stay hb hb' (p + 1) (fun e => ?_) k (fun i h1 h2 => h i h2 (by omega))
  have e' : cst8 8 (crc bs p ^^^ ((zz bs p).toNat * 16777216)) = cst8 8 (crc bs' p ^^^ ((zz bs' p).toNat * 16777216)) := e
  have h2 := cst8_inj 8 _ _ (xor_lt32 (crc_lt bs hb _) (byte_top hb _)) (xor_lt32 (crc_lt bs' hb' _) (byte_top hb' _)) e'
  rw [crc_same (bs := bs) (bs' := bs') p (fun i hi => h i (by omega) (by omega)), Nat.xor_comm, Nat.xor_comm (crc bs' p)] at h2
  have h3 := xor_right h2
  have b1 := hb p
  have b2 := hb' p
  exact hne (by omega)
theorem xor_drop (a b c d : Nat) : a ^^^ c ^^^ (b ^^^ (c ^^^ d)) = a ^^^ b ^^^ d := by
  have : a ^^^ c ^^^ (b ^^^ (c ^^^ d)) = a ^^^ b ^^^ d ^^^ (c ^^^ c) := by ac_rfl
  rw [this, Nat.xor_self, Nat.xor_zero]
theorem top24 (t L : Nat) (hL : L < 16777216) (h : t * 16777216 ^^^ L = 0) : t = 0 ∧ L = 0 := by
  have e := xor_zero_eq h
  clear h
  omega
theorem top16 (t L : Nat) (hL : L < 65536) (h : t * 65536 ^^^ L = 0) : t = 0 ∧ L = 0 := by
  have e := xor_zero_eq h
  clear h
  omega
theorem top8 (t L : Nat) (hL : L < 256) (h : t * 256 ^^^ L = 0) : t = 0 ∧ L = 0 := by
  have e := xor_zero_eq h
  clear h
  omega
theorem lt24 (t : Nat) (h : t < 256) : t * 16777216 < 4294967296 ∧ t * 65536 < 16777216 ∧ t * 65536 < 4294967296 ∧ t * 256 < 16777216 ∧ t * 256 < 65536 ∧ t < 65536 := by omega
theorem cst_step (D u v : Nat) (hD : D < 4294967296) (hu : u < 256) (hv : v < 16777216) : cst8 8 (D ^^^ u * 16777216 ^^^ v) = cst8 8 (D ^^^ u * 16777216) ^^^ v * 256 := by
  rw [cst8_lin 8 _ v (xor_lt32 hD (lt24 u hu).1) (Nat.lt_of_lt_of_le hv (by decide)), cst8_small v hv]
theorem crc_dif {bs bs' : List Int} (hb : ByteL bs) (hb' : ByteL bs') (n t : Nat) (ht : t < 256) (h : (zz bs' n).toNat = (zz bs n).toNat ^^^ t) : crc bs (n + 1) ^^^ crc bs' (n + 1) = cst8 8 ((crc bs n ^^^ crc bs' n) ^^^ t * 16777216) := by
  show cst8 8 (crc bs n ^^^ ((zz bs n).toNat * 16777216)) ^^^ cst8 8 (crc bs' n ^^^ ((zz bs' n).toNat * 16777216)) = _
  rw [← cst8_lin 8 _ _ (xor_lt32 (crc_lt bs hb _) (byte_top hb _)) (xor_lt32 (crc_lt bs' hb' _) (byte_top hb' _)), h]
  have e : ((zz bs n).toNat ^^^ t) * 16777216 = (zz bs n).toNat * 16777216 ^^^ t * 16777216 := by
    have := Nat.shiftLeft_xor_distrib (a := (zz bs n).toNat) (b := t) (i := 24)
    rw [Nat.shiftLeft_eq, Nat.shiftLeft_eq, Nat.shiftLeft_eq] at this
    exact this
  rw [e]
  exact congrArg (cst8 8) (xor_drop _ _ _ _)
/-- Four bytes, one behind the other, of which one at least is turned, turn the sum. -/
theorem crc_four {bs bs' : List Int} (hb : ByteL bs) (hb' : ByteL bs') (k L t0 t1 t2 t3 : Nat) (hk : k + 4 ≤ L) (h0 : t0 < 256) (h1 : t1 < 256) (h2 : t2 < 256) (h3 : t3 < 256)
    (e0 : (zz bs' k).toNat = (zz bs k).toNat ^^^ t0) (e1 : (zz bs' (k + 1)).toNat = (zz bs (k + 1)).toNat ^^^ t1) (e2 : (zz bs' (k + 2)).toNat = (zz bs (k + 2)).toNat ^^^ t2) (e3 : (zz bs' (k + 3)).toNat = (zz bs (k + 3)).toNat ^^^ t3)
    (hn : t0 ≠ 0 ∨ t1 ≠ 0 ∨ t2 ≠ 0 ∨ t3 ≠ 0) (h : ∀ i, i < L → i < k ∨ k + 4 ≤ i → zz bs i = zz bs' i) : crc bs L ≠ crc bs' L := by
  obtain ⟨j, rfl⟩ : ∃ j, L = k + 4 + j := ⟨L - (k + 4), by omega⟩
  refine crc_stay hb hb' (k + 4) (fun e => ?_) j (fun i h1 h2 => h i h2 (Or.inr h1))
  have d0 : crc bs k ^^^ crc bs' k = 0 := by rw [crc_same (bs := bs) (bs' := bs') k (fun i hi => h i (by omega) (Or.inl hi)), Nat.xor_self]
  have d1 := crc_dif hb hb' k t0 h0 e0
  have d2 := crc_dif hb hb' (k + 1) t1 h1 e1
  have d3 := crc_dif hb hb' (k + 2) t2 h2 e2
  have d4 := crc_dif hb hb' (k + 3) t3 h3 e3
  have x1 := xor_lt32 (crc_lt bs hb (k + 1)) (crc_lt bs' hb' (k + 1))
  have x2 := xor_lt32 (crc_lt bs hb (k + 2)) (crc_lt bs' hb' (k + 2))
  have x3 := xor_lt32 (crc_lt bs hb (k + 3)) (crc_lt bs' hb' (k + 3))
  have d5 : crc bs (k + 3 + 1) ^^^ crc bs' (k + 3 + 1) = 0 := by
    show crc bs (k + 4) ^^^ crc bs' (k + 4) = 0
    rw [e, Nat.xor_self]
  rw [d0] at d1
  have l0 := lt24 t0 h0
  have l1 := lt24 t1 h1
  have l2 := lt24 t2 h2
  have l3 := lt24 t3 h3
  have p2 : t2 * 256 ^^^ t3 < 65536 := Nat.xor_lt_two_pow (n := 16) l2.2.2.2.2.1 l3.2.2.2.2.2
  have p1 : t2 * 65536 ^^^ t3 * 256 < 16777216 := Nat.xor_lt_two_pow (n := 24) l2.2.1 l3.2.2.2.1
  have p3 : t1 * 65536 ^^^ (t2 * 256 ^^^ t3) < 16777216 := Nat.xor_lt_two_pow (n := 24) l1.2.1 (Nat.lt_of_lt_of_le p2 (by decide))
  have mul256 : ∀ a b : Nat, (a ^^^ b) * 256 = a * 256 ^^^ b * 256 := fun a b => by
    have := Nat.shiftLeft_xor_distrib (a := a) (b := b) (i := 8)
    rw [Nat.shiftLeft_eq, Nat.shiftLeft_eq, Nat.shiftLeft_eq] at this
    exact this
  have s1 := cst_step 0 t0 (t1 * 65536 ^^^ (t2 * 256 ^^^ t3)) (by decide) h0 p3
  rw [← d1, mul256, mul256, Nat.mul_assoc, Nat.mul_assoc t2] at s1
  have s2 := cst_step _ t1 (t2 * 65536 ^^^ t3 * 256) x1 h1 p1
  rw [← d2, mul256, Nat.mul_assoc, Nat.mul_assoc t3] at s2
  have s3 := cst_step _ t2 (t3 * 65536) x2 h2 l3.2.1
  rw [← d3, Nat.mul_assoc] at s3
  rw [d5] at d4
  have b2 : ∀ a b, a < 16777216 → b < 4294967296 → a ^^^ b < 4294967296 := fun a b ha hb => xor_lt32 (Nat.lt_of_lt_of_le ha (by decide)) hb
  have z4 := cst8_zero 8 _ (xor_lt32 x3 l3.1) d4.symm
  have hz3 : cst8 8 (crc bs (k + 2) ^^^ crc bs' (k + 2) ^^^ t2 * 16777216 ^^^ t3 * 65536) = 0 := s3.trans z4
  have z3 := cst8_zero 8 _ (xor_lt32 (xor_lt32 x2 l2.1) l3.2.2.1) hz3
  have hz2 : cst8 8 (crc bs (k + 1) ^^^ crc bs' (k + 1) ^^^ t1 * 16777216 ^^^ (t2 * 65536 ^^^ t3 * 256)) = 0 := s2.trans (by rw [← Nat.xor_assoc]; exact z3)
  have z2 := cst8_zero 8 _ (xor_lt32 (xor_lt32 x1 l1.1) (Nat.lt_of_lt_of_le p1 (by decide))) hz2
  have hz1 : cst8 8 (0 ^^^ t0 * 16777216 ^^^ (t1 * 65536 ^^^ (t2 * 256 ^^^ t3))) = 0 := s1.trans (by rw [← Nat.xor_assoc]; exact z2)
  have z1 := cst8_zero 8 _ (xor_lt32 (by rw [Nat.zero_xor]; exact l0.1) (Nat.lt_of_lt_of_le p3 (by decide))) hz1
  rw [Nat.zero_xor] at z1
  obtain ⟨y0, z0⟩ := top24 _ _ p3 z1
  obtain ⟨y1, z1'⟩ := top16 _ _ p2 z0
  obtain ⟨y2, y3⟩ := top8 _ _ h3 z1'
  rcases hn with h | h | h | h
  · exact h y0
  · exact h y1
  · exact h y2
  · exact h y3
end Go.Proofs.Ytembppihfcclcaa
