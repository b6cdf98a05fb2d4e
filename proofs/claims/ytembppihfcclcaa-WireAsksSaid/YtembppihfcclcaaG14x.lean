/-
  Wire: bytes.Equal; the reader's raw and num. Wire: the reader's part and log. Wire: the reader's log. Wire: what bytes say, in plain words.
-/
import Derived.Test.YtembppihfcclcaaMG
import Derived.Laws.BytesArg
import Derived.Lib.Bytes
namespace Go.Proofs.Ytembppihfcclcaa
set_option linter.unusedVariables false
open Go.ChangeShapes Go.WideShapes Go.ChangeAt Go.RowKit

set_option linter.unusedSimpArgs false
set_option maxRecDepth 100000 in
theorem convW_any {w : World} {v : Value} {bs : List Int} (h : BytesV w v bs) : (convert 28 9 v).run Try.prog w = .ok (.string (strOfNums bs)) w := by
  by_cases h0 : 0 < bs.length
  · exact conv_bytes h h0
  · obtain rfl : bs = [] := List.length_eq_zero_iff.1 (by omega)
    obtain ⟨a, cap, rfl, -⟩ := h
    cases a with
    | none => go_simp; rfl
    | some a => go_simp; rfl
theorem str_inj {a b : List Int} (ha : ByteL a) (hb : ByteL b) (h : (strOfNums a).toList = (strOfNums b).toList) : a = b := by
  rw [Go.Lib.strOfNums_toList, Go.Lib.strOfNums_toList] at h
  have hl : a.length = b.length := by have := congrArg List.length h; simpa [Go.Lib.bytesOf] using this
  apply List.ext_getElem hl
  intro i h2 h3
  have h4 : (Go.Lib.bytesOf a)[i]? = (Go.Lib.bytesOf b)[i]? := by rw [h]
  unfold Go.Lib.bytesOf at h4
  rw [List.getElem?_map, List.getElem?_map, List.getElem?_eq_getElem h2, List.getElem?_eq_getElem h3] at h4
  have h5 : UInt8.ofNat (a[i]).toNat = UInt8.ofNat (b[i]).toNat := by simpa using h4
  have ba : 0 ≤ a[i] ∧ a[i] < 256 := byteL_iff.1 ha _ (List.getElem_mem h2)
  have bb : 0 ≤ b[i] ∧ b[i] < 256 := byteL_iff.1 hb _ (List.getElem_mem h3)
  have h6 := congrArg UInt8.toNat h5
  rw [UInt8.toNat_ofNat', UInt8.toNat_ofNat'] at h6
  omega
theorem str_eq {a b : List Int} (ha : ByteL a) (hb : ByteL b) : ((strOfNums a).toList == (strOfNums b).toList) = decide (a = b) := by
  by_cases h : a = b
  · subst h; simp
  · rw [decide_eq_false h, beq_eq_false_iff_ne]
    exact fun e => h (str_inj ha hb e)
theorem bytesEq_any (v v' : Value) (bs bs' : List Int) (w : World) (h : BytesV w v bs) (h' : BytesV w v' bs') (hb : ByteL bs) (hb' : ByteL bs') :
    Calls Try.prog 44 #[v, v'] w fun e w' => e = .returned (.bool (decide (bs = bs'))) ∧ w = w' := by
  have h1 := convW_any h
  have h2 := convW_any h'
  have HE := Lib.hid (str_eq hb hb')
  clear hb hb' h h'
  go_enter Try.func44, Try.ntmps44
  go_wp2_with fail
  go_ret
  exact ⟨by rw [← HE.out]; rfl, rfl⟩
def wrongW : List PanicEntry := [{ v := .iface 76 (.agg #[]), recovered := false }]
/-- A reader at block R has come to place i of the L bytes that lie from place o of block b on. -/
structure RwAt (w : World) (R b o L C i : Nat) : Prop where
  cell : ∃ ad, w.cell? ⟨R, 0, none⟩ = some (.slice (some ad) (L - i) (C - i)) ∧ (i < L → ad = ⟨b, o + i, none⟩)
  fz : w.frozen? ⟨R, 0, none⟩ = false
  le : i ≤ L
  lc : L ≤ C
  cm : C ≤ maxLen
theorem RwAt.block {w w' : World} {R b o L C i : Nat} (h : RwAt w R b o L C i) (k : w'.heap[R]? = w.heap[R]?) : RwAt w' R b o L C i := by
  obtain ⟨⟨a, h1, h2⟩, h3, h4, h5, h6⟩ := h
  exact ⟨⟨a, (World.cell?_of_block k).trans h1, h2⟩, (World.frozen?_of_block k).trans h3, h4, h5, h6⟩
theorem RwAt.lt {w : World} {R b o L C i : Nat} (h : RwAt w R b o L C i) : R < w.heap.size := by
  obtain ⟨⟨a, h1, h2⟩, h3⟩ := h
  exact block_of_cell h1
theorem raw_end (R b o L C i n : Nat) (w : World) (h : RwAt w R b o L C i) (hn : L < i + n) :
    Calls Try.prog 57 #[.pointer (some ⟨R, 0, none⟩), .int .i64 n] w fun e w' => e = .panicked wrongW ∧ w' = w := by
  obtain ⟨⟨a, hc, -⟩, hf, hle, hlc, hcm⟩ := h
  unfold maxLen at hcm
  have hlt : ((L - i : Nat) : Int) < (n : Int) := by omega
  generalize L - i = m at *
  generalize C - i = c at *
  clear hn hle hlc hcm
  go_enter Try.func57, Try.ntmps57
  go_wp2
  exact ⟨rfl, rfl, rfl⟩
def RawPost (R b o L C i n : Nat) (w : World) (e : Ending) (w' : World) : Prop :=
  ∃ ad, e = .returned (.slice (some ad) n (C - i)) ∧ (0 < n → ad = ⟨b, o + i, none⟩) ∧ RwAt w' R b o L C (i + n) ∧ Only R w w'
set_option maxHeartbeats 1000000 in
theorem raw_any (R b o L C i n : Nat) (w : World) (h : RwAt w R b o L C i) (hn : i + n ≤ L) :
    Calls Try.prog 57 #[.pointer (some ⟨R, 0, none⟩), .int .i64 n] w (RawPost R b o L C i n w) := by
  obtain ⟨⟨a, hc, ha⟩, hf, hle, hlc, hcm⟩ := h
  have hcm0 := hcm
  unfold maxLen at hcm
  have hne : ∀ u, (w.setCell ⟨R, 0, none⟩ u).cell? ⟨R, 0, none⟩ = some u := fun u => World.cell?_setCell_same _ _ _ hc
  have HNe := Lib.hid hne
  clear hne
  obtain ⟨m, hm⟩ : ∃ m, L - i = n + m := ⟨L - i - n, by omega⟩
  obtain ⟨c, hc'⟩ : ∃ c, C - i = n + c := ⟨C - i - n, by omega⟩
  have hmc : m ≤ c := by omega
  have hcb : n + c ≤ 9223372036854775807 := by omega
  have HPost : Hid (∀ ad' : Addr, (i + n < L → ad' = ⟨b, o + (i + n), none⟩) → RawPost R b o L C i n w (.returned (.slice (some a) n (C - i))) (w.setCell ⟨R, 0, none⟩ (.slice (some ad') m c))) := Lib.hid (fun ad' h => ⟨a, rfl, fun hn0 => ha (by omega), ⟨⟨ad', (HNe.out _).trans (by rw [show L - (i + n) = m by omega, show C - (i + n) = c by omega]), h⟩, by rw [World.frozen?_setCell]; exact hf, hn, hlc, hcm0⟩, (Only.refl R w).setCell rfl _⟩)
  have HA := Lib.hid ha
  have HN := Lib.hid hn
  have HLm : Hid (i + n < L → 0 < m) := Lib.hid (fun h => by omega)
  rw [hm, hc'] at hc
  rw [hc'] at HPost
  clear HNe ha hn hcm0 hm hc' hcm hle hlc
  by_cases h0 : n = 0
  · subst h0
    go_enter Try.func57, Try.ntmps57
    go_wp2
    go_ret
    have hp := HPost.out a HA.out
    rw [Nat.zero_add] at hp
    exact hp
  · obtain rfl : a = ⟨b, o + i, none⟩ := HA.out (by have := HN.out; omega)
    have hn0 : 0 < n := by omega
    go_enter Try.func57, Try.ntmps57
    go_wp2
    · obtain rfl : c = 0 := by assumption
      go_ret
      exact HPost.out _ (fun h => by have := HLm.out h; omega)
    · go_ret
      exact HPost.out _ (fun _ => by rw [Nat.add_assoc])
/-- The first n bytes from place i on, as a number, the least first. -/
def leV (bs : List Int) (i : Nat) : Nat → Int
  | 0 => 0
  | n + 1 => leV bs i n + zz bs (i + n) * 256 ^ n
theorem or_add64 (k : Nat) (hk : k ≤ 56) (x y : Int) (hx0 : 0 ≤ x) (hx : x < 2 ^ k) (hy0 : 0 ≤ y) (hy : y < 256) : bits .or .u64 x (y * 2 ^ k) = x + y * 2 ^ k := by
  obtain ⟨a, rfl⟩ := Int.eq_ofNat_of_zero_le hx0
  obtain ⟨b, rfl⟩ := Int.eq_ofNat_of_zero_le hy0
  have ha : a < 2 ^ k := by exact_mod_cast hx
  have hb : b < 2 ^ 8 := by omega
  have hp : 2 ^ k ≤ 2 ^ 56 := Nat.pow_le_pow_right (by omega) hk
  have hbk : b * 2 ^ k < 2 ^ 64 := by
    have h1 : b * 2 ^ k ≤ 255 * 2 ^ k := Nat.mul_le_mul_right _ (by omega)
    omega
  have ha64 : a < 2 ^ 64 := by omega
  have e : ((b : Int) * 2 ^ k) = ((b * 2 ^ k : Nat) : Int) := by push_cast; rfl
  have e2 : a ||| b * 2 ^ k = a + b * 2 ^ k := by
    rw [Nat.mul_comm b, Nat.or_comm, ← Nat.two_pow_add_eq_or_of_lt ha, Nat.add_comm]
  have hor := Nat.or_lt_two_pow ha64 hbk
  have h1 : a % 2 ^ IntKind.u64.bits = a := Nat.mod_eq_of_lt ha64
  have h2 : (b * 2 ^ k) % 2 ^ IntKind.u64.bits = b * 2 ^ k := Nat.mod_eq_of_lt hbk
  rw [e]
  simp only [bits, BitVec.ofInt_natCast, BitVec.toNat_or, BitVec.toNat_ofNat, h1, h2]
  rw [e2] at hor ⊢
  generalize b * 2 ^ k = q at *
  simp [IntKind.wrap, IntKind.bits, IntKind.signed]
  omega
theorem leV_bd {bs : List Int} (h : ByteL bs) (i : Nat) : ∀ n, 0 ≤ leV bs i n ∧ leV bs i n < 256 ^ n
  | 0 => by show (0 : Int) ≤ 0 ∧ (0 : Int) < 1; omega
  | n + 1 => by
    have h1 := leV_bd h i n
    have h2 := h (i + n)
    have hp : (0 : Int) < 256 ^ n := Int.pow_pos (by omega)
    unfold leV
    rw [Int.pow_succ]
    have h3 : 0 ≤ zz bs (i + n) * 256 ^ n := Int.mul_nonneg h2.1 (Int.le_of_lt hp)
    have h4 : zz bs (i + n) * 256 ^ n ≤ 255 * 256 ^ n := Int.mul_le_mul_of_nonneg_right (by omega) (Int.le_of_lt hp)
    omega
theorem leV_or {bs : List Int} (h : ByteL bs) (i k : Nat) (hk : k < 8) : bits .or .u64 (leV bs i k) (zz bs (i + k) * 2 ^ (8 * k)) = leV bs i (k + 1) := by
  have h1 := leV_bd h i k
  have h2 := h (i + k)
  have e : (256 : Int) ^ k = 2 ^ (8 * k) := by rw [Int.pow_mul]; rfl
  rw [e] at h1
  rw [or_add64 (8 * k) (by omega) _ _ h1.1 h1.2 h2.1 h2.2]
  show _ = leV bs i k + zz bs (i + k) * 256 ^ k
  rw [e]
def NumP (bs : List Int) (R b o L C i n : Nat) (w : World) (e : Ending) (w' : World) : Prop := e = .returned (.int .u64 (leV bs i n)) ∧ RwAt w' R b o L C (i + n) ∧ Only R w w'
set_option maxHeartbeats 2000000 in
theorem rnum_any (R b o L C i n : Nat) (bs : List Int) (w : World) (hl : bs.length = L) (hby : ByteL bs) (h : RwAt w R b o L C i) (hn : i + n ≤ L) (hn0 : 0 < n) (hn8 : n ≤ 8) (hb : BytesAt w b o bs) (hRb : b ≠ R) :
    Calls Try.prog 42 #[.pointer (some ⟨R, 0, none⟩), .int .i64 n] w (NumP bs R b o L C i n w) := by
  have HB := Lib.hid hb
  have HBY := Lib.hid hby
  have HL := Lib.hid hl
  have HNL := Lib.hid hn
  have H0 := Lib.hid h
  have hcm := h.cm
  have hlc := h.lc
  unfold maxLen at hcm
  have hnC : n ≤ C - i := by omega
  have hCi : C - i ≤ 9223372036854775807 := by omega
  clear hb hby hl h hn hcm hlc
  go_enter Try.func42, Try.ntmps42
  go_wp2_with fail
  refine (raw_any R b o L C i n _ H0.out HNL.out).mono ?_
  rintro e w1 ⟨ad, rfl, had, hr, ho⟩
  obtain rfl := had hn0
  have HR := Lib.hid hr
  have HO := Lib.hid ho
  have HB1 := Lib.hid (HB.out.block (ho.block b hRb))
  clear hr ho had
  generalize C - i = cc at *
  go_wp2_with fail
  go_loopw [5, 12] (fun v j wr => wr = w1 ∧ ∃ k : Nat, k ≤ n ∧ j = .int .i64 k ∧ v = .int .u64 (leV bs i k)) (fun _ j _ => n - (intOf j).toNat)
  case atStart => exact ⟨rfl, 0, by omega, rfl, rfl⟩
  case round =>
    obtain ⟨rfl, k, hk, rfl, rfl⟩ := hrel
    by_cases hlt : k < n
    · have d0 : wr.cell? ⟨b, o + i + k, none⟩ = some (.int .u8 (zz bs (i + k))) := by
        have := HB1.out (i + k) (by have := HL.out; have := HNL.out; omega)
        rw [← Nat.add_assoc] at this
        exact this
      have hki : (k : Int) < (n : Int) := by omega
      have hz := HBY.out (i + k)
      have hor := leV_or HBY.out i k (by omega)
      have hbd := leV_bd HBY.out i k
      generalize hq : leV bs i (k + 1) = q at *
      have HQ := Lib.hid hq
      clear hq
      generalize zz bs (i + k) = z at *
      generalize leV bs i k = x at *
      rcases (by omega : k = 0 ∨ k = 1 ∨ k = 2 ∨ k = 3 ∨ k = 4 ∨ k = 5 ∨ k = 6 ∨ k = 7) with rfl | rfl | rfl | rfl | rfl | rfl | rfl | rfl
      · rw [Nat.add_zero] at d0
        have HOr : Hid (bits .or .u64 x z = q) := Lib.hid (by rw [← hor]; congr 1; omega)
        clear hor
        go_wp2_with fail
        exact ⟨⟨by first | rfl | trivial, 1, by omega, rfl, by rw [HOr.out, HQ.out]⟩, by simp [intOf]; omega⟩
      · have HOr : Hid (bits .or .u64 x (z * 256) = q) := Lib.hid hor
        clear hor
        go_wp2_with fail
        exact ⟨⟨by first | rfl | trivial, 2, by omega, rfl, by rw [HOr.out, HQ.out]⟩, by simp [intOf]; omega⟩
      · have HOr : Hid (bits .or .u64 x (z * 65536) = q) := Lib.hid hor
        clear hor
        go_wp2_with fail
        exact ⟨⟨by first | rfl | trivial, 3, by omega, rfl, by rw [HOr.out, HQ.out]⟩, by simp [intOf]; omega⟩
      · have HOr : Hid (bits .or .u64 x (z * 16777216) = q) := Lib.hid hor
        clear hor
        go_wp2_with fail
        exact ⟨⟨by first | rfl | trivial, 4, by omega, rfl, by rw [HOr.out, HQ.out]⟩, by simp [intOf]; omega⟩
      · have HOr : Hid (bits .or .u64 x (z * 4294967296) = q) := Lib.hid hor
        clear hor
        go_wp2_with fail
        exact ⟨⟨by first | rfl | trivial, 5, by omega, rfl, by rw [HOr.out, HQ.out]⟩, by simp [intOf]; omega⟩
      · have HOr : Hid (bits .or .u64 x (z * 1099511627776) = q) := Lib.hid hor
        clear hor
        go_wp2_with fail
        exact ⟨⟨by first | rfl | trivial, 6, by omega, rfl, by rw [HOr.out, HQ.out]⟩, by simp [intOf]; omega⟩
      · have HOr : Hid (bits .or .u64 x (z * 281474976710656) = q) := Lib.hid hor
        clear hor
        go_wp2_with fail
        exact ⟨⟨by first | rfl | trivial, 7, by omega, rfl, by rw [HOr.out, HQ.out]⟩, by simp [intOf]; omega⟩
      · have HOr : Hid (bits .or .u64 x (z * 72057594037927936) = q) := Lib.hid hor
        clear hor
        go_wp2_with fail
        exact ⟨⟨by first | rfl | trivial, 8, by omega, rfl, by rw [HOr.out, HQ.out]⟩, by simp [intOf]; omega⟩
    · obtain rfl : k = n := by omega
      go_wp2_with fail
      go_ret
      exact ⟨rfl, HR.out, HO.out⟩
end Go.Proofs.Ytembppihfcclcaa

namespace Go.Proofs.Ytembppihfcclcaa
set_option linter.unusedVariables false
open Go.ChangeShapes Go.WideShapes Go.ChangeAt Go.RowKit

set_option linter.unusedSimpArgs false
theorem num_end (R b o L C i n : Nat) (w : World) (h : RwAt w R b o L C i) (hn : L < i + n) :
    Calls Try.prog 42 #[.pointer (some ⟨R, 0, none⟩), .int .i64 n] w fun e w' => e = .panicked wrongW ∧ w' = w := by
  have H := Lib.hid h
  have HN := Lib.hid hn
  clear h hn
  go_enter Try.func42, Try.ntmps42
  go_wp2_with fail
  refine (raw_end R b o L C i n _ H.out HN.out).mono ?_
  rintro e w1 ⟨rfl, rfl⟩
  unfold wrongW
  go_wp2_with fail
  exact ⟨rfl, rfl, rfl⟩
/-- Of what was there, only block R may have changed. -/
structure RdW (R : Nat) (w w' : World) : Prop where
  os : w'.os = w.os
  tape : w'.tape = w.tape
  output : w'.output = w.output
  size : w.heap.size ≤ w'.heap.size
  block : ∀ k, k < w.heap.size → k ≠ R → w'.heap[k]? = w.heap[k]?
theorem RdW.refl (R : Nat) (w : World) : RdW R w w := ⟨rfl, rfl, rfl, Nat.le_refl _, fun _ _ _ => rfl⟩
theorem RdW.trans {R : Nat} {x y z : World} (h : RdW R x y) (k : RdW R y z) : RdW R x z :=
  ⟨k.os.trans h.os, k.tape.trans h.tape, k.output.trans h.output, Nat.le_trans h.size k.size, fun i hi hr => (k.block i (Nat.lt_of_lt_of_le hi h.size) hr).trans (h.block i hi hr)⟩
theorem Only.rdW {R : Nat} {w w' : World} (h : Only R w w') : RdW R w w' := ⟨h.os, h.tape, h.output, Nat.le_of_eq h.size.symm, fun k _ hk => h.block k hk⟩
theorem rdW_of {R B : Nat} {w w' : World} (h : Below B w w') (hB : w.heap.size ≤ B) : RdW R w w' := ⟨h.os, h.tape, h.output, h.size, fun k hk _ => h.block k (by omega)⟩
theorem RdW.below {R B : Nat} {w w' : World} (h : RdW R w w') (hB : B ≤ R) (hs : B ≤ w.heap.size) : Below B w w' := ⟨h.os, h.tape, h.output, h.size, fun k hk => h.block k (by omega) (by omega)⟩
theorem leV_nn {bs : List Int} (h : ByteL bs) (i n : Nat) : 0 ≤ leV bs i n := (leV_bd h i n).1
theorem leV_lt {bs : List Int} (h : ByteL bs) (i : Nat) : leV bs i 1 < 256 ∧ leV bs i 2 < 65536 ∧ leV bs i 4 < 4294967296 ∧ leV bs i 8 < 18446744073709551616 :=
  ⟨(leV_bd h i 1).2, (leV_bd h i 2).2, (leV_bd h i 4).2, (leV_bd h i 8).2⟩
/-- A number read, or the end. -/
def NumQ (bs : List Int) (R b o C i n : Nat) (w : World) (e : Ending) (w' : World) : Prop :=
  (i + n ≤ bs.length ∧ e = .returned (.int .u64 (leV bs i n)) ∧ RwAt w' R b o bs.length C (i + n) ∧ Only R w w') ∨ (bs.length < i + n ∧ e = .panicked wrongW ∧ w' = w)
theorem rnum_q (R b o C i n : Nat) (bs : List Int) (w : World) (hby : ByteL bs) (h : RwAt w R b o bs.length C i) (hn0 : 0 < n) (hn8 : n ≤ 8) (hb : BytesAt w b o bs) (hRb : b ≠ R) :
    Calls Try.prog 42 #[.pointer (some ⟨R, 0, none⟩), .int .i64 n] w (NumQ bs R b o C i n w) := by
  by_cases hn : i + n ≤ bs.length
  · exact (rnum_any R b o _ C i n bs w rfl hby h hn hn0 hn8 hb hRb).mono fun e w' hp => Or.inl ⟨hn, hp⟩
  · exact (num_end R b o _ C i n w h (by omega)).mono fun e w' hp => Or.inr ⟨by omega, hp⟩
/-- A part read, left out, or the end. -/
def PartQ (bs : List Int) (R b o C i n : Nat) (has : Bool) (w : World) (e : Ending) (w' : World) : Prop :=
  (i + (if has then n else 0) ≤ bs.length ∧ e = .returned (.int .i64 (if has then leV bs i n else 0)) ∧ RwAt w' R b o bs.length C (i + (if has then n else 0)) ∧ Only R w w') ∨ (bs.length < i + (if has then n else 0) ∧ e = .panicked wrongW ∧ w' = w)
theorem rpart_q (R b o C i n : Nat) (bs : List Int) (has : Bool) (h p : Int) (hh : (bits .and .i64 h p == 0) = !has) (w : World) (hby : ByteL bs) (hr : RwAt w R b o bs.length C i) (hn0 : 0 < n) (hn4 : n ≤ 4) (hb : BytesAt w b o bs) (hRb : b ≠ R) :
    Calls Try.prog 58 #[.pointer (some ⟨R, 0, none⟩), .int .i64 h, .int .i64 p, .int .i64 n] w (PartQ bs R b o C i n has w) := by
  have HR := Lib.hid hr
  have HB := Lib.hid hb
  have HBY := Lib.hid hby
  unfold PartQ
  cases has
  · clear hr hb hby
    simp only [Bool.false_eq_true, if_false, Nat.add_zero]
    have HLe := Lib.hid HR.out.le
    go_enter Try.func58, Try.ntmps58
    go_wp2_with fail
    go_ret
    exact Or.inl ⟨HLe.out, rfl, HR.out, Only.refl R w⟩
  · clear hr hb hby
    simp only [if_true]
    have hv0 := leV_nn HBY.out i n
    have hv1 := (leV_bd HBY.out i n).2
    have hp : (256 : Int) ^ n ≤ 4294967296 := by
      rcases (by omega : n = 1 ∨ n = 2 ∨ n = 3 ∨ n = 4) with e | e | e | e <;> rw [e] <;> decide
    have hv2 : leV bs i n < 4294967296 := by omega
    clear hv1 hp
    go_enter Try.func58, Try.ntmps58
    go_wp2_with fail
    refine (rnum_q R b o C i n bs _ HBY.out HR.out hn0 (by omega) HB.out hRb).mono ?_
    rintro e w1 (⟨hle, rfl, hr, ho⟩ | ⟨hlt, rfl, rfl⟩)
    · have HR1 := Lib.hid hr
      have HO1 := Lib.hid ho
      have HLe := Lib.hid hle
      clear hr ho hle
      go_wp2_with fail
      go_ret
      exact Or.inl ⟨HLe.out, rfl, HR1.out, HO1.out⟩
    · have HLt := Lib.hid hlt
      clear hlt
      unfold wrongW
      go_wp2_with fail
      exact ⟨rfl, Or.inr ⟨HLt.out, rfl, rfl⟩⟩
end Go.Proofs.Ytembppihfcclcaa

namespace Go.Proofs.Ytembppihfcclcaa
set_option linter.unusedVariables false
open Go.ChangeShapes Go.WideShapes Go.ChangeAt Go.RowKit

set_option linter.unusedSimpArgs false
/-- The bytes of an entry that begins at place i, behind its length. -/
def eLen (bs : List Int) (i : Nat) : Nat := (leV bs i 2).toNat
def eBy (bs : List Int) (i : Nat) : List Int := (bs.drop (i + 2)).take (eLen bs i)
def LogQ (bs : List Int) (R b o C i : Nat) (w : World) (e : Ending) (w' : World) : Prop :=
  (i + 2 + eLen bs i ≤ bs.length ∧ OkG (eBy bs i) ∧ (∃ sv, e = .returned (.agg (entL (gFr (eBy bs i)) sv (gI (eBy bs i))).toArray) ∧ OwnE w' w.heap.size sv (gN (eBy bs i)) (gE (eBy bs i))) ∧ RwAt w' R b o bs.length C (i + 2 + eLen bs i) ∧ RdW R w w') ∨
  ((bs.length < i + 2 + eLen bs i ∨ ¬ OkG (eBy bs i)) ∧ e = .panicked wrongW ∧ RdW R w w')
theorem results_log (tmps : Array Value) (w : World) (T2 : Nat) (h2 : tmps.getD 2 undef = .pointer (some ⟨T2, 0, none⟩)) (fr : Int) (sv : Value) (I : Nat → Int) (he : EntAt w T2 0 fr sv I) :
    (results Try.f59 tmps).run Try.prog w = .ok (.agg (entL fr sv I).toArray) w := by
  have hl := run_loadVar_mid (P := Try.prog) w T2 0 37 (entL fr sv I) _ he.range Try.underlying37 rfl (size_ent fr sv I)
  have h2' : tmps[2]?.getD undef = .pointer (some ⟨T2, 0, none⟩) := by simpa using h2
  simp [results, Try.results59, h2', asAddr, hl]
theorem eBy_len {bs : List Int} {i : Nat} (h : i + 2 + eLen bs i ≤ bs.length) : (eBy bs i).length = eLen bs i := by
  unfold eBy
  rw [List.length_take, List.length_drop]
  omega
theorem eBy_by {bs : List Int} (h : ByteL bs) (i : Nat) : ByteL (eBy bs i) := by
  rw [byteL_iff] at h ⊢
  intro x hx
  exact h x (List.mem_of_mem_drop (List.mem_of_mem_take hx))
theorem eBy_at {w : World} {b o : Nat} {bs : List Int} {i : Nat} (hb : BytesAt w b o bs) (h : i + 2 + eLen bs i ≤ bs.length) : BytesAt w b (o + (i + 2)) (eBy bs i) := by
  intro j hj
  rw [eBy_len h] at hj
  have := hb (i + 2 + j) (by omega)
  rw [show o + (i + 2) + j = o + (i + 2 + j) by omega, this]
  unfold eBy
  rw [List.getD_eq_getElem?_getD, List.getD_eq_getElem?_getD, List.getElem?_take, if_pos hj, List.getElem?_drop]
theorem rdW_setCells {R : Nat} {w w' : World} (h : RdW R w w') (T : Nat) (hT : w.heap.size ≤ T) (vs : List Value) : RdW R w (w'.setCells T 0 vs) := by
  have hb := below_setCells (B := T) T (Nat.le_refl _) vs 0 (Below.refl T w')
  exact ⟨hb.os.trans h.os, hb.tape.trans h.tape, hb.output.trans h.output, Nat.le_trans h.size hb.size, fun k hk hR => (hb.block k (by omega)).trans (h.block k hk hR)⟩
theorem OwnE.stored {w : World} {B n T : Nat} {sv : Value} {E : Nat → Nat → Int} (h : OwnE w B sv n E) (hT : T < B) (vs : List Value) : OwnE (w.setCells T 0 vs) B sv n E := by
  have hb := below_setCells (B := T) T (Nat.le_refl _) vs 0 (Below.refl T w)
  refine World.ownsRow.kept (row := some T) h ⟨hb.os, hb.tape, hb.output, hb.size, fun k hk hne => setCells_other T k (fun e => hne (by rw [e])) vs 0 w⟩ ?_
  cases hv : sv.ownBlock with
  | none => exact Or.inl rfl
  | some g => exact Or.inr (fun e => by have := (World.ownsRow.lt h g hv).1; injection e with e; omega)
set_option maxRecDepth 100000 in
set_option maxHeartbeats 4000000 in
theorem log_any (R b o C i : Nat) (bs : List Int) (w : World) (hby : ByteL bs) (hr : RwAt w R b o bs.length C i) (hb : BytesAt w b o bs) (hbl : b < w.heap.size) (hRb : b ≠ R) :
    Calls Try.prog 59 #[.pointer (some ⟨R, 0, none⟩)] w (LogQ bs R b o C i w) := by
  have HBY := Lib.hid hby
  have hB0 := (Below.refl w.heap.size w).alloc (Nat.le_refl _) (Obj.cells #[.int .i64 0, .slice none 0 0, .int .i8 0, .int .i8 0, .int .u8 0, .int .i8 0, .int .i8 0, .int .u8 0, .int .i8 0, .int .i8 0, .int .u8 0, .int .i8 0, .int .i8 0, .int .u8 0, .int .i8 0, .int .i8 0, .int .u8 0, .int .i8 0, .int .i8 0, .int .u8 0, .int .i8 0, .int .i8 0, .int .u8 0, .int .i8 0, .int .i8 0, .int .u8 0] 37)
  have hRl := hr.lt
  have HR := Lib.hid (hr.block (hB0.block R hRl))
  have HB := Lib.hid (hb.block (hB0.block b hbl))
  have HD : Hid (RdW R w (w.alloc (Obj.cells #[.int .i64 0, .slice none 0 0, .int .i8 0, .int .i8 0, .int .u8 0, .int .i8 0, .int .i8 0, .int .u8 0, .int .i8 0, .int .i8 0, .int .u8 0, .int .i8 0, .int .i8 0, .int .u8 0, .int .i8 0, .int .i8 0, .int .u8 0, .int .i8 0, .int .i8 0, .int .u8 0, .int .i8 0, .int .i8 0, .int .u8 0, .int .i8 0, .int .i8 0, .int .u8 0] 37))) := Lib.hid (rdW_of hB0 (Nat.le_refl _))
  have HT : Hid ((w.alloc (Obj.cells #[.int .i64 0, .slice none 0 0, .int .i8 0, .int .i8 0, .int .u8 0, .int .i8 0, .int .i8 0, .int .u8 0, .int .i8 0, .int .i8 0, .int .u8 0, .int .i8 0, .int .i8 0, .int .u8 0, .int .i8 0, .int .i8 0, .int .u8 0, .int .i8 0, .int .i8 0, .int .u8 0, .int .i8 0, .int .i8 0, .int .u8 0, .int .i8 0, .int .i8 0, .int .u8 0] 37)).there w.heap.size 0 26) := Lib.hid (there_alloc_lit _ _ _ _ (by decide))
  have hv := leV_lt hby i
  have hv0 := leV_nn hby i 2
  have hv2 := hv.2.1
  have hs0 : w.heap.size < (w.alloc (Obj.cells #[.int .i64 0, .slice none 0 0, .int .i8 0, .int .i8 0, .int .u8 0, .int .i8 0, .int .i8 0, .int .u8 0, .int .i8 0, .int .i8 0, .int .u8 0, .int .i8 0, .int .i8 0, .int .u8 0, .int .i8 0, .int .i8 0, .int .u8 0, .int .i8 0, .int .i8 0, .int .u8 0, .int .i8 0, .int .i8 0, .int .u8 0, .int .i8 0, .int .i8 0, .int .u8 0] 37)).heap.size := by simp
  have HLen : Hid ((eLen bs i : Int) = leV bs i 2) := Lib.hid (by unfold eLen; omega)
  have HEB := Lib.hid (eBy_by hby i)
  have HEL : Hid (i + 2 + eLen bs i ≤ bs.length → (eBy bs i).length = eLen bs i) := Lib.hid eBy_len
  have HEA : Hid (∀ W, BytesAt W b o bs → i + 2 + eLen bs i ≤ bs.length → BytesAt W b (o + (i + 2)) (eBy bs i)) := Lib.hid (fun W h1 h2 => eBy_at h1 h2)
  unfold LogQ
  generalize eBy bs i = eb at *
  generalize eLen bs i = m at *
  clear hby hr hb hB0 hv
  go_enter Try.func59, Try.ntmps59
  go_wp2_with fail
  generalize w.alloc (Obj.cells #[.int .i64 0, .slice none 0 0, .int .i8 0, .int .i8 0, .int .u8 0, .int .i8 0, .int .i8 0, .int .u8 0, .int .i8 0, .int .i8 0, .int .u8 0, .int .i8 0, .int .i8 0, .int .u8 0, .int .i8 0, .int .i8 0, .int .u8 0, .int .i8 0, .int .i8 0, .int .u8 0, .int .i8 0, .int .i8 0, .int .u8 0, .int .i8 0, .int .i8 0, .int .u8 0] 37) = w1 at *
  generalize hT2 : w.heap.size = T2 at *
  have HT2 := Lib.hid hT2
  clear hT2
  have hT2R : R < T2 := by omega
  refine (rnum_q R b o C i 2 bs _ HBY.out HR.out (by omega) (by omega) HB.out hRb).mono ?_
  rintro e w2 (⟨hle, rfl, hr2, ho2⟩ | ⟨hlt, rfl, rfl⟩)
  rotate_left
  · have HX : Hid (bs.length < i + 2 + m) := Lib.hid (by omega)
    clear hlt
    unfold wrongW
    go_wp2_with fail
    exact ⟨rfl, Or.inr ⟨Or.inl HX.out, rfl, HD.out⟩⟩
  have HR2 := Lib.hid hr2
  have HB2 := Lib.hid (HB.out.block (ho2.block b hRb))
  have HD2 := Lib.hid (HD.out.trans ho2.rdW)
  have HTh2 := Lib.hid (there_block HT.out (ho2.block T2 (by omega)))
  clear hr2 ho2 HR HB HD HT hle
  go_wp2_with fail
  rw [← HLen.out]
  by_cases hin : i + 2 + m ≤ bs.length
  rotate_left
  · refine (raw_end R b o _ C (i + 2) (m) _ HR2.out (by omega)).mono ?_
    rintro e w3 ⟨rfl, rfl⟩
    have HX : Hid (bs.length < i + 2 + m) := Lib.hid (by omega)
    clear hin
    unfold wrongW
    go_wp2_with fail
    exact ⟨rfl, Or.inr ⟨Or.inl HX.out, rfl, HD2.out⟩⟩
  refine (raw_any R b o _ C (i + 2) (m) _ HR2.out (by omega)).mono ?_
  rintro e w3 ⟨ad, rfl, had, hr3, ho3⟩
  have hl3 := HR2.out.lc
  have hm3 := HR2.out.cm
  have HV3 : Hid (BytesV w3 (.slice (some ad) (m) (C - (i + 2))) eb) := Lib.hid (by
    refine ⟨some ad, C - (i + 2), by rw [HEL.out hin], by rw [HEL.out hin]; omega, by omega, fun h0 => ?_⟩
    rw [HEL.out hin] at h0
    refine ⟨b, o + (i + 2), by rw [had h0], by rw [ho3.size]; have := block_of_cell (HB2.out 0 (by omega)); simpa using this, HEA.out _ (HB2.out.block (ho3.block b hRb)) hin⟩)
  have HR3 := Lib.hid hr3
  have HB3 := Lib.hid (HB2.out.block (ho3.block b hRb))
  have HD3 := Lib.hid (HD2.out.trans ho3.rdW)
  have HTh3 := Lib.hid (there_block HTh2.out (ho3.block T2 (by omega)))
  have hT23 : T2 < w3.heap.size := there_lt (n := 25) HTh3.out
  have HIn := Lib.hid hin
  clear hr3 ho3 had hl3 hm3 HR2 HB2 HD2 HTh2 hin hv0 hv2
  go_wp2_with fail
  refine (get_any _ eb _ HV3.out HEB.out).mono ?_
  rintro e w4 ⟨hp, hb4⟩
  have HR4 := Lib.hid (HR3.out.block (hb4.block R HR3.out.lt))
  have HD4 := Lib.hid (HD3.out.trans (rdW_of hb4 (Nat.le_refl _)))
  have HTh4 := Lib.hid (there_block HTh3.out (hb4.block T2 hT23))
  have hT24 : T2 < w4.heap.size := there_lt (n := 25) HTh4.out
  have hT2w3 := hT23
  clear hb4 HR3 HD3 HTh3 HV3 HB3 hT23
  rcases hp with ⟨hok, sv, rfl, hev⟩ | ⟨hno, rfl⟩
  · have HOk := Lib.hid hok
    have HEv := Lib.hid hev
    have HO1 := Lib.hid (hev.evs.one (gFr eb) (gI eb))
    have HX := Lib.hid (entAt_new (gFr eb) sv (gI eb) 37 w4)
    have HB5 := Lib.hid ((Below.refl w4.heap.size w4).alloc (Nat.le_refl _) (Obj.cells (entL (gFr eb) sv (gI eb)).toArray 37))
    have HTh5 : Hid ((w4.alloc (Obj.cells (entL (gFr eb) sv (gI eb)).toArray 37)).there T2 0 (entL (gFr eb) sv (gI eb)).toArray.size) := Lib.hid (by
      have e : (entL (gFr eb) sv (gI eb)).toArray.size = 26 := by rw [List.size_toArray, entL_len]
      rw [e]; exact there_block HTh4.out (HB5.out.block T2 hT24))
    have HR5 := Lib.hid (HR4.out.block (HB5.out.block R (by omega)))
    have HD5 := Lib.hid (HD4.out.trans (rdW_of HB5.out (Nat.le_refl _)))
    have HEv5 := Lib.hid (HEv.out.below HB5.out (Nat.le_refl _))
    clear hok hev
    go_wp2_with (first | (refine wpList_store_ent (op := ⟨none, Op.store 37 (.tmp 3) _, _, _, _, _⟩) rfl (.tmp 3) (.tmp 12) rfl (gFr eb) sv (gI eb) HO1.out w4 w4.heap.size rfl rfl rfl ?_) | (refine wpList_load_g (op := ⟨some 18, _, _, _, _, _⟩) (by rfl) 37 _ rfl w4.heap.size 0 rfl _ _ HX.out.range Try.underlying37 rfl (size_ent _ _ _) ?_) | (refine wpList_store_mid (op := ⟨none, Op.store 37 (.tmp 2) _, _, _, _, _⟩) rfl 37 _ _ rfl T2 0 (entL (gFr eb) sv (gI eb)).toArray rfl rfl HTh5.out (by exact size_ent (gFr eb) sv (gI eb)) HO1.out ?_))
    have HW : Hid (RdW R w ((w4.alloc (Obj.cells (entL (gFr eb) sv (gI eb)).toArray 37)).setCells T2 0 (entL (gFr eb) sv (gI eb)))) := Lib.hid (rdW_setCells HD5.out T2 (by have := HT2.out; omega) _)
    have HRW : Hid (RwAt ((w4.alloc (Obj.cells (entL (gFr eb) sv (gI eb)).toArray 37)).setCells T2 0 (entL (gFr eb) sv (gI eb))) R b o bs.length C (i + 2 + m)) := Lib.hid (HR5.out.block (setCells_other T2 R (by omega) _ _ _))
    have HEW := Lib.hid ((HEv5.out.stored hT2w3 (entL (gFr eb) sv (gI eb))).mono (Nat.le_of_lt hT2w3))
    have HEn : Hid (EntAt ((w4.alloc (Obj.cells (entL (gFr eb) sv (gI eb)).toArray 37)).setCells T2 0 (entL (gFr eb) sv (gI eb))) T2 0 (gFr eb) sv (gI eb)) := Lib.hid (entAt_stored (there_block HTh4.out (HB5.out.block T2 hT24)) (gFr eb) sv (gI eb))
    generalize (w4.alloc (Obj.cells (entL (gFr eb) sv (gI eb)).toArray 37)).setCells T2 0 (entL (gFr eb) sv (gI eb)) = w6 at *
    go_wp2_with fail
    exact bodyPost_ret (v := .agg (entL (gFr eb) sv (gI eb)).toArray) (results_log _ _ T2 rfl (gFr eb) sv (gI eb) HEn.out) rfl (Or.inl ⟨HIn.out, HOk.out, ⟨sv, rfl, by rw [HT2.out]; exact HEW.out⟩, HRW.out, HW.out⟩)
  · have HX : Hid (¬ OkG eb) := Lib.hid hno
    clear hno
    have HO1 := Lib.hid (entL_one 0 none 0 0 (fun _ => 0))
    have HB5 := Lib.hid ((Below.refl w4.heap.size w4).alloc (Nat.le_refl _) (Obj.cells (entL 0 (.slice none 0 0) (fun _ => 0)).toArray 37))
    go_wp2_with (refine wpList_store_ent (op := ⟨none, Op.store 37 _ _, _, _, _, _⟩) rfl (.tmp 3) (.tmp 12) rfl 0 (.slice none 0 0) (fun _ => 0) HO1.out w4 w4.heap.size rfl rfl rfl ?_)
    exact ⟨rfl, Or.inr ⟨Or.inr HX.out, rfl, HD4.out.trans (rdW_of HB5.out (Nat.le_refl _))⟩⟩
end Go.Proofs.Ytembppihfcclcaa

namespace Go.Proofs.Ytembppihfcclcaa
set_option linter.unusedVariables false
open Go.ChangeShapes Go.WideShapes Go.ChangeAt Go.RowKit

set_option linter.unusedSimpArgs false
def gK (bs : List Int) : Int := leV bs 0 1
def wdt (j : Nat) : Nat := if j = 0 ∨ j = 3 then 1 else if j = 1 ∨ j = 4 ∨ j = 5 then 2 else if j = 7 then 8 else 4
/-- Where the j-th part stands. -/
def gPs (bs : List Int) : Nat → Nat
  | 0 => 10
  | j + 1 => gPs bs j + (if hasB (gK bs) j then wdt j else 0)
def gV (bs : List Int) (j : Nat) : Int := if hasB (gK bs) j then leV bs (gPs bs j) (wdt j) else 0
def gF (bs : List Int) (k : Nat) : Int := if k = 0 then leV bs 0 1 else if k = 1 then leV bs 1 1 else if k = 2 then leV bs 2 2 else if k = 3 then leV bs 4 2 else if k = 4 then leV bs 6 4 else gV bs (k - 5)
def gNi (bs : List Int) : Nat := (if hasB (gK bs) 8 then leV bs (gPs bs 8) 1 else 0).toNat
def gQi (bs : List Int) : Nat := gPs bs 8 + (if hasB (gK bs) 8 then 1 else 0)
def gIn (bs : List Int) (j : Nat) : Int := if j % 3 = 2 then zz bs (gQi bs + j) else sgn (zz bs (gQi bs + j))
def gQl (bs : List Int) : Nat := gQi bs + 3 * gNi bs
def gNl (bs : List Int) : Nat := (if hasB (gK bs) 9 then leV bs (gQl bs) 1 else 0).toNat
def gQe (bs : List Int) : Nat → Nat
  | 0 => gQl bs + (if hasB (gK bs) 9 then 1 else 0)
  | m + 1 => gQe bs m + 2 + eLen bs (gQe bs m)
def gD (bs : List Int) (m : Nat) : Ent := ⟨gFr (eBy bs (gQe bs m)), gN (eBy bs (gQe bs m)), gE (eBy bs (gQe bs m)), gI (eBy bs (gQe bs m))⟩
def gQd (bs : List Int) : Nat := gQe bs (gNl bs)
def gNd (bs : List Int) : Nat := (if hasB (gK bs) 10 then leV bs (gQd bs) 1 else 0).toNat
def gQt (bs : List Int) : Nat := gQd bs + (if hasB (gK bs) 10 then 1 else 0)
def gDt (bs : List Int) : List Int := (bs.drop (gQt bs)).take (gNd bs)
def gEnd (bs : List Int) : Nat := gQt bs + gNd bs
/-- The message that bytes say. -/
def prsM (bs : List Int) : Msg := ⟨gF bs, gNi bs, gIn bs, gNl bs, gD bs, gDt bs⟩
def POk (bs : List Int) : Prop := gEnd bs ≤ bs.length ∧ ∀ m, m < gNl bs → OkG (eBy bs (gQe bs m))
theorem gPs_mono (bs : List Int) (i j : Nat) (h : i ≤ j) : gPs bs i ≤ gPs bs j := by
  induction j with
  | zero => have : i = 0 := by omega
            subst this; exact Nat.le_refl _
  | succ j ih =>
    by_cases e : i = j + 1
    · subst e; exact Nat.le_refl _
    · have h1 := ih (by omega)
      have h2 : gPs bs (j + 1) = gPs bs j + (if hasB (gK bs) j then wdt j else 0) := rfl
      omega
theorem gQe_mono (bs : List Int) (i j : Nat) (h : i ≤ j) : gQe bs i ≤ gQe bs j := by
  induction j with
  | zero => have : i = 0 := by omega
            subst this; exact Nat.le_refl _
  | succ j ih =>
    by_cases e : i = j + 1
    · subst e; exact Nat.le_refl _
    · have h1 := ih (by omega)
      have h2 : gQe bs (j + 1) = gQe bs j + 2 + eLen bs (gQe bs j) := rfl
      omega
theorem gEnd_ge (bs : List Int) : 10 ≤ gPs bs 0 ∧ gPs bs 8 ≤ gQi bs ∧ gQi bs ≤ gQl bs ∧ gQl bs ≤ gQe bs 0 ∧ gQe bs 0 ≤ gQd bs ∧ gQd bs ≤ gQt bs ∧ gQt bs ≤ gEnd bs := by
  refine ⟨Nat.le_refl _, ?_, ?_, ?_, gQe_mono bs 0 _ (Nat.zero_le _), ?_, ?_⟩
  · unfold gQi; omega
  · unfold gQl; omega
  · show _ ≤ gQl bs + _; omega
  · unfold gQt; omega
  · unfold gEnd; omega
/-- Where one reads beyond the end there is no message. -/
theorem not_pok_hd {bs : List Int} (h : bs.length < 10) : ¬ POk bs := fun hp => by
  have h1 := gEnd_ge bs
  have h2 := gPs_mono bs 0 8 (by omega)
  have h3 := hp.1
  omega
theorem not_pok_part {bs : List Int} {j : Nat} (hj : j < 8) (h : bs.length < gPs bs (j + 1)) : ¬ POk bs := fun hp => by
  have h1 := gEnd_ge bs
  have h2 := gPs_mono bs (j + 1) 8 (by omega)
  have h3 := hp.1
  omega
theorem not_pok_qi {bs : List Int} (h : bs.length < gQi bs) : ¬ POk bs := fun hp => by
  have h1 := gEnd_ge bs
  have h3 := hp.1
  omega
theorem not_pok_in {bs : List Int} {i : Nat} (hi : i < gNi bs) (h : bs.length < gQi bs + 3 * i + 3) : ¬ POk bs := fun hp => by
  have h1 := gEnd_ge bs
  have h3 := hp.1
  have h4 : gQl bs = gQi bs + 3 * gNi bs := rfl
  omega
theorem not_pok_q0 {bs : List Int} (h : bs.length < gQe bs 0) : ¬ POk bs := fun hp => by
  have h1 := gEnd_ge bs
  have h3 := hp.1
  omega
theorem not_pok_log {bs : List Int} {m : Nat} (hm : m < gNl bs) (h : bs.length < gQe bs m + 2 + eLen bs (gQe bs m) ∨ ¬ OkG (eBy bs (gQe bs m))) : ¬ POk bs := fun hp => by
  rcases h with h | h
  · have h1 := gEnd_ge bs
    have h2 := gQe_mono bs (m + 1) (gNl bs) (by omega)
    have h3 := hp.1
    have h4 : gQe bs (m + 1) = gQe bs m + 2 + eLen bs (gQe bs m) := rfl
    have h5 : gQd bs = gQe bs (gNl bs) := rfl
    omega
  · exact h (hp.2 m hm)
theorem not_pok_qt {bs : List Int} (h : bs.length < gQt bs) : ¬ POk bs := fun hp => by
  have h1 := gEnd_ge bs
  have h3 := hp.1
  omega
theorem not_pok_end {bs : List Int} (h : bs.length < gEnd bs) : ¬ POk bs := fun hp => by
  have h3 := hp.1
  omega
theorem gNi_lt {bs : List Int} (h : ByteL bs) : gNi bs < 256 := by
  have := leV_lt h (gPs bs 8)
  have := leV_nn h (gPs bs 8) 1
  unfold gNi
  split <;> omega
theorem gNl_lt {bs : List Int} (h : ByteL bs) : gNl bs < 256 := by
  have := leV_lt h (gQl bs)
  have := leV_nn h (gQl bs) 1
  unfold gNl
  split <;> omega
theorem gNd_lt {bs : List Int} (h : ByteL bs) : gNd bs < 256 := by
  have := leV_lt h (gQd bs)
  have := leV_nn h (gQd bs) 1
  unfold gNd
  split <;> omega
/-- The cells of inputs. -/
def inL3 (I : Nat → Int) : Nat → List Value
  | 0 => []
  | n + 1 => inL3 I n ++ [.int .i8 (I (n * 3)), .int .i8 (I (n * 3 + 1)), .int .u8 (I (n * 3 + 2))]
theorem inL3_len (I : Nat → Int) : ∀ n, (inL3 I n).length = n * 3
  | 0 => rfl
  | n + 1 => by unfold inL3; rw [List.length_append, inL3_len I n]; show _ + 3 = _; omega
theorem inL3_get (I : Nat → Int) : ∀ n i, i < n → (inL3 I n)[i * 3]? = some (.int .i8 (I (i * 3))) ∧ (inL3 I n)[i * 3 + 1]? = some (.int .i8 (I (i * 3 + 1))) ∧ (inL3 I n)[i * 3 + 2]? = some (.int .u8 (I (i * 3 + 2)))
  | 0, i, h => by omega
  | n + 1, i, h => by
    unfold inL3
    by_cases e : i = n
    · subst e
      have h0 := inL3_len I i
      refine ⟨?_, ?_, ?_⟩
      · rw [List.getElem?_append_right (by omega), h0, Nat.sub_self]; rfl
      · rw [List.getElem?_append_right (by omega), h0, show i * 3 + 1 - i * 3 = 1 by omega]; rfl
      · rw [List.getElem?_append_right (by omega), h0, show i * 3 + 2 - i * 3 = 2 by omega]; rfl
    · have h0 := inL3_len I n
      rw [List.getElem?_append_left (by omega), List.getElem?_append_left (by omega), List.getElem?_append_left (by omega)]
      exact inL3_get I n i (by omega)
/-- A row of inputs of the call's own, in a block from number B on. -/
def OwnI (w : World) (B : Nat) (v : Value) (n : Nat) (I : Nat → Int) : Prop := w.ownsRow B 34 3 v n (inL3 I n)
theorem OwnI.below {w w' : World} {B B' n : Nat} {v : Value} {I : Nat → Int} (h : OwnI w B v n I) (hb : Below B' w w') (hs : w.heap.size ≤ B') : OwnI w' B v n I := by
  refine World.ownsRow.kept (row := none) h ⟨hb.os, hb.tape, hb.output, hb.size, fun k hk _ => hb.block k (by omega)⟩ ?_
  cases hv : v.ownBlock <;> simp
theorem OwnI.rdW {w w' : World} {B R n : Nat} {v : Value} {I : Nat → Int} (h : OwnI w B v n I) (hb : RdW R w w') (hR : R < B) : OwnI w' B v n I := by
  refine World.ownsRow.kept (row := some R) h ⟨hb.os, hb.tape, hb.output, hb.size, fun k hk hne => hb.block k hk (fun e => hne (by rw [e]))⟩ ?_
  cases hv : v.ownBlock with
  | none => exact Or.inl rfl
  | some g => exact Or.inr (fun e => by have := (World.ownsRow.lt h g hv).1; injection e with e; omega)
theorem OwnI.inps {w : World} {B n : Nat} {v : Value} {I : Nat → Int} (h : OwnI w B v n I) : InpsV w v n I := by
  have h' := h
  rcases h.2 with ⟨rfl, rfl⟩ | ⟨g, cap, cur, rfl, hb, hg, h1, h2, -⟩
  · exact ⟨none, 0, rfl, Nat.le_refl _, Nat.zero_le _, fun h => absurd h (by omega)⟩
  · refine ⟨_, cap, rfl, h1, h2, fun _ => ⟨g, 0, rfl, (Array.getElem?_eq_some_iff.1 hg).1, ?_⟩⟩
    have hc : ∀ j u, (inL3 I n)[j]? = some u → w.cell? ⟨g, 0 + j, none⟩ = some u := fun j u hj => by
      have := World.ownsRow.cells h' (g := g) rfl j u hj
      rwa [Go.WideShapes.add_plain] at this
    exact ⟨fun i hi => hc _ _ (inL3_get I n i hi).1, fun i hi => hc _ _ (inL3_get I n i hi).2.1, fun i hi => hc _ _ (inL3_get I n i hi).2.2⟩
/-- The cells of entries, each with its own slice of events. -/
def enL (D : Nat → Ent) (S : Nat → Value) : Nat → List Value
  | 0 => []
  | n + 1 => enL D S n ++ entL (D n).fr (S n) (D n).I
theorem enL_len (D : Nat → Ent) (S : Nat → Value) : ∀ n, (enL D S n).length = n * 26
  | 0 => rfl
  | n + 1 => by unfold enL; rw [List.length_append, enL_len D S n, entL_len]; omega
theorem enL_get (D : Nat → Ent) (S : Nat → Value) : ∀ n i k, i < n → k < 26 → (enL D S n)[i * 26 + k]? = some (entF (D i).fr (S i) (D i).I k)
  | 0, i, k, h, _ => by omega
  | n + 1, i, k, h, hk => by
    have h0 := enL_len D S n
    unfold enL
    by_cases e : i = n
    · subst e
      rw [List.getElem?_append_right (by omega), h0, show i * 26 + k - i * 26 = k by omega]
      exact entL_get _ _ _ _ hk
    · rw [List.getElem?_append_left (by omega)]
      exact enL_get D S n i k (by omega) hk
/-- A row of entries of the call's own; each one's events lie beside it, in rows of the call's own too. -/
structure OwnL (w : World) (B : Nat) (v : Value) (n : Nat) (D : Nat → Ent) : Prop where
  ex : ∃ S : Nat → Value, w.ownsRow B 37 26 v n (enL D S n) ∧ ∀ i, i < n → OwnE w B (S i) (D i).n (D i).E ∧ ((S i).ownBlock = none ∨ (S i).ownBlock ≠ v.ownBlock)
theorem OwnE.rdW {w w' : World} {B R n : Nat} {v : Value} {E : Nat → Nat → Int} (h : OwnE w B v n E) (hb : RdW R w w') (hR : R < B) : OwnE w' B v n E := by
  refine World.ownsRow.kept (row := some R) h ⟨hb.os, hb.tape, hb.output, hb.size, fun k hk hne => hb.block k hk (fun e => hne (by rw [e]))⟩ ?_
  cases hv : v.ownBlock with
  | none => exact Or.inl rfl
  | some g => exact Or.inr (fun e => by have := (World.ownsRow.lt h g hv).1; injection e with e; omega)
theorem OwnL.rdW {w w' : World} {B R n : Nat} {v : Value} {D : Nat → Ent} (h : OwnL w B v n D) (hb : RdW R w w') (hR : R < B) : OwnL w' B v n D := by
  obtain ⟨S, h1, h2⟩ := h.ex
  refine ⟨S, ?_, fun i hi => ⟨(h2 i hi).1.rdW hb hR, (h2 i hi).2⟩⟩
  refine World.ownsRow.kept (row := some R) h1 ⟨hb.os, hb.tape, hb.output, hb.size, fun k hk hne => hb.block k hk (fun e => hne (by rw [e]))⟩ ?_
  cases hv : v.ownBlock with
  | none => exact Or.inl rfl
  | some g => exact Or.inr (fun e => by have := (World.ownsRow.lt h1 g hv).1; injection e with e; omega)
theorem OwnB.rdW {w w' : World} {B R : Nat} {v : Value} {bs : List Int} (h : OwnB w B v bs) (hb : RdW R w w') (hR : R < B) : OwnB w' B v bs := by
  refine World.ownsRow.kept (row := some R) h ⟨hb.os, hb.tape, hb.output, hb.size, fun k hk hne => hb.block k hk (fun e => hne (by rw [e]))⟩ ?_
  cases hv : v.ownBlock with
  | none => exact Or.inl rfl
  | some g => exact Or.inr (fun e => by have := (World.ownsRow.lt h g hv).1; injection e with e; omega)
theorem OwnL.ents {w : World} {B n : Nat} {v : Value} {D : Nat → Ent} (h : OwnL w B v n D) : EntsV w v n D := by
  obtain ⟨S, h1, h2⟩ := h.ex
  rcases h1.2 with ⟨rfl, rfl⟩ | ⟨g, cap, cur, rfl, hb, hg, h3, h4, -⟩
  · exact ⟨none, 0, rfl, Nat.le_refl _, Nat.zero_le _, fun h => absurd h (by omega)⟩
  · refine ⟨_, cap, rfl, h3, h4, fun _ => ⟨g, 0, rfl, (Array.getElem?_eq_some_iff.1 hg).1, fun i hi => ⟨S i, ⟨fun k hk => ?_⟩, (h2 i hi).1.evs⟩⟩⟩
    have := World.ownsRow.cells h1 (g := g) rfl (i * 26 + k) _ (enL_get D S n i k hi hk)
    rw [Go.WideShapes.add_plain] at this
    rw [show 0 + i * 26 + k = 0 + (i * 26 + k) by omega]
    exact this
end Go.Proofs.Ytembppihfcclcaa
