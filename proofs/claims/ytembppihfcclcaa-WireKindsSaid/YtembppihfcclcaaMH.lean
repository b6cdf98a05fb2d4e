/-
  Wire: bytes.Equal; the reader's raw and num.
-/
import Derived.Test.YtembppihfcclcaaMG
import Derived.Laws.BytesArg
import Derived.Lib.Bytes
namespace Go.Proofs.Ytembppihfcclcaa
set_option linter.unusedVariables false
open Go.ChangeShapes Go.WideShapes Go.ChangeAt Go.RowKit

set_option linter.unusedSimpArgs false
set_option maxRecDepth 100000 in
theorem convW_any {w : World} {v : Value} {bs : List Int} (h : BytesV w v bs) : (convert 28 9 v).run Try.prog w = .ok (.string (strOfNums bs)) w := by
  by_cases h0 : 0 < bs.length
  · exact conv_bytes h h0
  · obtain rfl : bs = [] := List.length_eq_zero_iff.1 (by omega)
    obtain ⟨a, cap, rfl, -⟩ := h
    cases a with
    | none => go_simp; rfl
    | some a => go_simp; rfl
theorem str_inj {a b : List Int} (ha : ByteL a) (hb : ByteL b) (h : (strOfNums a).toList = (strOfNums b).toList) : a = b := by
  rw [Go.Lib.strOfNums_toList, Go.Lib.strOfNums_toList] at h
  have hl : a.length = b.length := by have := congrArg List.length h; simpa [Go.Lib.bytesOf] using this
  apply List.ext_getElem hl
  intro i h2 h3
  have h4 : (Go.Lib.bytesOf a)[i]? = (Go.Lib.bytesOf b)[i]? := by rw [h]
  unfold Go.Lib.bytesOf at h4
  rw [List.getElem?_map, List.getElem?_map, List.getElem?_eq_getElem h2, List.getElem?_eq_getElem h3] at h4
  have h5 : UInt8.ofNat (a[i]).toNat = UInt8.ofNat (b[i]).toNat := by simpa using h4
  have ba : 0 ≤ a[i] ∧ a[i] < 256 := byteL_iff.1 ha _ (List.getElem_mem h2)
  have bb : 0 ≤ b[i] ∧ b[i] < 256 := byteL_iff.1 hb _ (List.getElem_mem h3)
  have h6 := congrArg UInt8.toNat h5
  rw [UInt8.toNat_ofNat', UInt8.toNat_ofNat'] at h6
  omega
theorem str_eq {a b : List Int} (ha : ByteL a) (hb : ByteL b) : ((strOfNums a).toList == (strOfNums b).toList) = decide (a = b) := by
  by_cases h : a = b
  · subst h; simp
  · rw [decide_eq_false h, beq_eq_false_iff_ne]
    exact fun e => h (str_inj ha hb e)
theorem bytesEq_any (v v' : Value) (bs bs' : List Int) (w : World) (h : BytesV w v bs) (h' : BytesV w v' bs') (hb : ByteL bs) (hb' : ByteL bs') :
    Calls Try.prog 44 #[v, v'] w fun e w' => e = .returned (.bool (decide (bs = bs'))) ∧ w = w' := by
  have h1 := convW_any h
  have h2 := convW_any h'
  have HE := Lib.hid (str_eq hb hb')
  clear hb hb' h h'
  go_enter Try.func44, Try.ntmps44
  go_wp2_with fail
  go_ret
  exact ⟨by rw [← HE.out]; rfl, rfl⟩
def wrongW : List PanicEntry := [{ v := .iface 76 (.agg #[]), recovered := false }]
/-- A reader at block R has come to place i of the L bytes that lie from place o of block b on. -/
structure RwAt (w : World) (R b o L C i : Nat) : Prop where
  cell : ∃ ad, w.cell? ⟨R, 0, none⟩ = some (.slice (some ad) (L - i) (C - i)) ∧ (i < L → ad = ⟨b, o + i, none⟩)
  fz : w.frozen? ⟨R, 0, none⟩ = false
  le : i ≤ L
  lc : L ≤ C
  cm : C ≤ maxLen
theorem RwAt.block {w w' : World} {R b o L C i : Nat} (h : RwAt w R b o L C i) (k : w'.heap[R]? = w.heap[R]?) : RwAt w' R b o L C i := by
  obtain ⟨⟨a, h1, h2⟩, h3, h4, h5, h6⟩ := h
  exact ⟨⟨a, (World.cell?_of_block k).trans h1, h2⟩, (World.frozen?_of_block k).trans h3, h4, h5, h6⟩
theorem RwAt.lt {w : World} {R b o L C i : Nat} (h : RwAt w R b o L C i) : R < w.heap.size := by
  obtain ⟨⟨a, h1, h2⟩, h3⟩ := h
  exact block_of_cell h1
theorem raw_end (R b o L C i n : Nat) (w : World) (h : RwAt w R b o L C i) (hn : L < i + n) :
    Calls Try.prog 57 #[.pointer (some ⟨R, 0, none⟩), .int .i64 n] w fun e w' => e = .panicked wrongW ∧ w' = w := by
  obtain ⟨⟨a, hc, -⟩, hf, hle, hlc, hcm⟩ := h
  unfold maxLen at hcm
  have hlt : ((L - i : Nat) : Int) < (n : Int) := by omega
  generalize L - i = m at *
  generalize C - i = c at *
  clear hn hle hlc hcm
  go_enter Try.func57, Try.ntmps57
  go_wp2
  exact ⟨rfl, rfl, rfl⟩
def RawPost (R b o L C i n : Nat) (w : World) (e : Ending) (w' : World) : Prop :=
  ∃ ad, e = .returned (.slice (some ad) n (C - i)) ∧ (0 < n → ad = ⟨b, o + i, none⟩) ∧ RwAt w' R b o L C (i + n) ∧ Only R w w'
set_option maxHeartbeats 1000000 in
theorem raw_any (R b o L C i n : Nat) (w : World) (h : RwAt w R b o L C i) (hn : i + n ≤ L) :
    Calls Try.prog 57 #[.pointer (some ⟨R, 0, none⟩), .int .i64 n] w (RawPost R b o L C i n w) := by
  obtain ⟨⟨a, hc, ha⟩, hf, hle, hlc, hcm⟩ := h
  have hcm0 := hcm
  unfold maxLen at hcm
  have hne : ∀ u, (w.setCell ⟨R, 0, none⟩ u).cell? ⟨R, 0, none⟩ = some u := fun u => World.cell?_setCell_same _ _ _ hc
  have HNe := Lib.hid hne
  clear hne
  obtain ⟨m, hm⟩ : ∃ m, L - i = n + m := ⟨L - i - n, by omega⟩
  obtain ⟨c, hc'⟩ : ∃ c, C - i = n + c := ⟨C - i - n, by omega⟩
  have hmc : m ≤ c := by omega
  have hcb : n + c ≤ 9223372036854775807 := by omega
  have HPost : Hid (∀ ad' : Addr, (i + n < L → ad' = ⟨b, o + (i + n), none⟩) → RawPost R b o L C i n w (.returned (.slice (some a) n (C - i))) (w.setCell ⟨R, 0, none⟩ (.slice (some ad') m c))) := Lib.hid (fun ad' h => ⟨a, rfl, fun hn0 => ha (by omega), ⟨⟨ad', (HNe.out _).trans (by rw [show L - (i + n) = m by omega, show C - (i + n) = c by omega]), h⟩, by rw [World.frozen?_setCell]; exact hf, hn, hlc, hcm0⟩, (Only.refl R w).setCell rfl _⟩)
  have HA := Lib.hid ha
  have HN := Lib.hid hn
  have HLm : Hid (i + n < L → 0 < m) := Lib.hid (fun h => by omega)
  rw [hm, hc'] at hc
  rw [hc'] at HPost
  clear HNe ha hn hcm0 hm hc' hcm hle hlc
  by_cases h0 : n = 0
  · subst h0
    go_enter Try.func57, Try.ntmps57
    go_wp2
    go_ret
    have hp := HPost.out a HA.out
    rw [Nat.zero_add] at hp
    exact hp
  · obtain rfl : a = ⟨b, o + i, none⟩ := HA.out (by have := HN.out; omega)
    have hn0 : 0 < n := by omega
    go_enter Try.func57, Try.ntmps57
    go_wp2
    · obtain rfl : c = 0 := by assumption
      go_ret
      exact HPost.out _ (fun h => by have := HLm.out h; omega)
    · go_ret
      exact HPost.out _ (fun _ => by rw [Nat.add_assoc])
/-- The first n bytes from place i on, as a number, the least first. -/
def leV (bs : List Int) (i : Nat) : Nat → Int
  | 0 => 0
  | n + 1 => leV bs i n + zz bs (i + n) * 256 ^ n
theorem or_add64 (k : Nat) (hk : k ≤ 56) (x y : Int) (hx0 : 0 ≤ x) (hx : x < 2 ^ k) (hy0 : 0 ≤ y) (hy : y < 256) : bits .or .u64 x (y * 2 ^ k) = x + y * 2 ^ k := by
  obtain ⟨a, rfl⟩ := Int.eq_ofNat_of_zero_le hx0
  obtain ⟨b, rfl⟩ := Int.eq_ofNat_of_zero_le hy0
  have ha : a < 2 ^ k := by exact_mod_cast hx
  have hb : b < 2 ^ 8 := by omega
  have hp : 2 ^ k ≤ 2 ^ 56 := Nat.pow_le_pow_right (by omega) hk
  have hbk : b * 2 ^ k < 2 ^ 64 := by
    have h1 : b * 2 ^ k ≤ 255 * 2 ^ k := Nat.mul_le_mul_right _ (by omega)
    omega
  have ha64 : a < 2 ^ 64 := by omega
  have e : ((b : Int) * 2 ^ k) = ((b * 2 ^ k : Nat) : Int) := by push_cast; rfl
  have e2 : a ||| b * 2 ^ k = a + b * 2 ^ k := by
    rw [Nat.mul_comm b, Nat.or_comm, ← Nat.two_pow_add_eq_or_of_lt ha, Nat.add_comm]
  have hor := Nat.or_lt_two_pow ha64 hbk
  have h1 : a % 2 ^ IntKind.u64.bits = a := Nat.mod_eq_of_lt ha64
  have h2 : (b * 2 ^ k) % 2 ^ IntKind.u64.bits = b * 2 ^ k := Nat.mod_eq_of_lt hbk
  rw [e]
  simp only [bits, BitVec.ofInt_natCast, BitVec.toNat_or, BitVec.toNat_ofNat, h1, h2]
  rw [e2] at hor ⊢
  generalize b * 2 ^ k = q at *
  simp [IntKind.wrap, IntKind.bits, IntKind.signed]
  omega
theorem leV_bd {bs : List Int} (h : ByteL bs) (i : Nat) : ∀ n, 0 ≤ leV bs i n ∧ leV bs i n < 256 ^ n
  | 0 => by show (0 : Int) ≤ 0 ∧ (0 : Int) < 1; omega
  | n + 1 => by
    have h1 := leV_bd h i n
    have h2 := h (i + n)
    have hp : (0 : Int) < 256 ^ n := Int.pow_pos (by omega)
    unfold leV
    rw [Int.pow_succ]
    have h3 : 0 ≤ zz bs (i + n) * 256 ^ n := Int.mul_nonneg h2.1 (Int.le_of_lt hp)
    have h4 : zz bs (i + n) * 256 ^ n ≤ 255 * 256 ^ n := Int.mul_le_mul_of_nonneg_right (by omega) (Int.le_of_lt hp)
    omega
theorem leV_or {bs : List Int} (h : ByteL bs) (i k : Nat) (hk : k < 8) : bits .or .u64 (leV bs i k) (zz bs (i + k) * 2 ^ (8 * k)) = leV bs i (k + 1) := by
  have h1 := leV_bd h i k
  have h2 := h (i + k)
  have e : (256 : Int) ^ k = 2 ^ (8 * k) := by rw [Int.pow_mul]; rfl
  rw [e] at h1
  rw [or_add64 (8 * k) (by omega) _ _ h1.1 h1.2 h2.1 h2.2]
  show _ = leV bs i k + zz bs (i + k) * 256 ^ k
  rw [e]
def NumP (bs : List Int) (R b o L C i n : Nat) (w : World) (e : Ending) (w' : World) : Prop := e = .returned (.int .u64 (leV bs i n)) ∧ RwAt w' R b o L C (i + n) ∧ Only R w w'
set_option maxHeartbeats 2000000 in
theorem rnum_any (R b o L C i n : Nat) (bs : List Int) (w : World) (hl : bs.length = L) (hby : ByteL bs) (h : RwAt w R b o L C i) (hn : i + n ≤ L) (hn0 : 0 < n) (hn8 : n ≤ 8) (hb : BytesAt w b o bs) (hRb : b ≠ R) :
    Calls Try.prog 42 #[.pointer (some ⟨R, 0, none⟩), .int .i64 n] w (NumP bs R b o L C i n w) := by
  have HB := Lib.hid hb
  have HBY := Lib.hid hby
  have HL := Lib.hid hl
  have HNL := Lib.hid hn
  have H0 := Lib.hid h
  have hcm := h.cm
  have hlc := h.lc
  unfold maxLen at hcm
  have hnC : n ≤ C - i := by omega
  have hCi : C - i ≤ 9223372036854775807 := by omega
  clear hb hby hl h hn hcm hlc
  go_enter Try.func42, Try.ntmps42
  go_wp2_with fail
  refine (raw_any R b o L C i n _ H0.out HNL.out).mono ?_
  rintro e w1 ⟨ad, rfl, had, hr, ho⟩
  obtain rfl := had hn0
  have HR := Lib.hid hr
  have HO := Lib.hid ho
  have HB1 := Lib.hid (HB.out.block (ho.block b hRb))
  clear hr ho had
  generalize C - i = cc at *
  go_wp2_with fail
  go_loopw [5, 12] (fun v j wr => wr = w1 ∧ ∃ k : Nat, k ≤ n ∧ j = .int .i64 k ∧ v = .int .u64 (leV bs i k)) (fun _ j _ => n - (intOf j).toNat)
  case atStart => exact ⟨rfl, 0, by omega, rfl, rfl⟩
  case round =>
    obtain ⟨rfl, k, hk, rfl, rfl⟩ := hrel
    by_cases hlt : k < n
    · have d0 : wr.cell? ⟨b, o + i + k, none⟩ = some (.int .u8 (zz bs (i + k))) := by
        have := HB1.out (i + k) (by have := HL.out; have := HNL.out; omega)
        rw [← Nat.add_assoc] at this
        exact this
      have hki : (k : Int) < (n : Int) := by omega
      have hz := HBY.out (i + k)
      have hor := leV_or HBY.out i k (by omega)
      have hbd := leV_bd HBY.out i k
      generalize hq : leV bs i (k + 1) = q at *
      have HQ := Lib.hid hq
      clear hq
      generalize zz bs (i + k) = z at *
      generalize leV bs i k = x at *
      rcases (by omega : k = 0 ∨ k = 1 ∨ k = 2 ∨ k = 3 ∨ k = 4 ∨ k = 5 ∨ k = 6 ∨ k = 7) with rfl | rfl | rfl | rfl | rfl | rfl | rfl | rfl
      · rw [Nat.add_zero] at d0
        have HOr : Hid (bits .or .u64 x z = q) := Lib.hid (by rw [← hor]; congr 1; omega)
        clear hor
        go_wp2_with fail
        exact ⟨⟨by first | rfl | trivial, 1, by omega, rfl, by rw [HOr.out, HQ.out]⟩, by simp [intOf]; omega⟩
      · have HOr : Hid (bits .or .u64 x (z * 256) = q) := Lib.hid hor
        clear hor
        go_wp2_with fail
        exact ⟨⟨by first | rfl | trivial, 2, by omega, rfl, by rw [HOr.out, HQ.out]⟩, by simp [intOf]; omega⟩
      · have HOr : Hid (bits .or .u64 x (z * 65536) = q) := Lib.hid hor
        clear hor
        go_wp2_with fail
        exact ⟨⟨by first | rfl | trivial, 3, by omega, rfl, by rw [HOr.out, HQ.out]⟩, by simp [intOf]; omega⟩
      · have HOr : Hid (bits .or .u64 x (z * 16777216) = q) := Lib.hid hor
        clear hor
        go_wp2_with fail
        exact ⟨⟨by first | rfl | trivial, 4, by omega, rfl, by rw [HOr.out, HQ.out]⟩, by simp [intOf]; omega⟩
      · have HOr : Hid (bits .or .u64 x (z * 4294967296) = q) := Lib.hid hor
        clear hor
        go_wp2_with fail
        exact ⟨⟨by first | rfl | trivial, 5, by omega, rfl, by rw [HOr.out, HQ.out]⟩, by simp [intOf]; omega⟩
      · have HOr : Hid (bits .or .u64 x (z * 1099511627776) = q) := Lib.hid hor
        clear hor
        go_wp2_with fail
        exact ⟨⟨by first | rfl | trivial, 6, by omega, rfl, by rw [HOr.out, HQ.out]⟩, by simp [intOf]; omega⟩
      · have HOr : Hid (bits .or .u64 x (z * 281474976710656) = q) := Lib.hid hor
        clear hor
        go_wp2_with fail
        exact ⟨⟨by first | rfl | trivial, 7, by omega, rfl, by rw [HOr.out, HQ.out]⟩, by simp [intOf]; omega⟩
      · have HOr : Hid (bits .or .u64 x (z * 72057594037927936) = q) := Lib.hid hor
        clear hor
        go_wp2_with fail
        exact ⟨⟨by first | rfl | trivial, 8, by omega, rfl, by rw [HOr.out, HQ.out]⟩, by simp [intOf]; omega⟩
    · obtain rfl : k = n := by omega
      go_wp2_with fail
      go_ret
      exact ⟨rfl, HR.out, HO.out⟩
end Go.Proofs.Ytembppihfcclcaa
