/-
  Entry: the reference's reader, followed along the bytes.
-/
import Derived.Test.YtmhgkkfeohaojaaZ
import Derived.Lib.Bytes
namespace Go.Proofs.Ytmhgkkfeohaojaa
set_option linter.unusedVariables false
open Go.ChangeShapes Go.WideShapes Go.ChangeAt Go.RowKit

set_option linter.unusedSimpArgs false
/-- Of what was there, only block R may have changed. -/
structure Rd (R : Nat) (w w' : World) : Prop where
  os : w'.os = w.os
  tape : w'.tape = w.tape
  output : w'.output = w.output
  size : w.heap.size ≤ w'.heap.size
  block : ∀ k, k < w.heap.size → k ≠ R → w'.heap[k]? = w.heap[k]?
theorem Rd.refl (R : Nat) (w : World) : Rd R w w := ⟨rfl, rfl, rfl, Nat.le_refl _, fun _ _ _ => rfl⟩
theorem Rd.trans {R : Nat} {x y z : World} (h : Rd R x y) (k : Rd R y z) : Rd R x z :=
  ⟨k.os.trans h.os, k.tape.trans h.tape, k.output.trans h.output, Nat.le_trans h.size k.size, fun i hi hr => (k.block i (Nat.lt_of_lt_of_le hi h.size) hr).trans (h.block i hi hr)⟩
theorem Only.rd {R : Nat} {w w' : World} (h : Only R w w') : Rd R w w' := ⟨h.os, h.tape, h.output, Nat.le_of_eq h.size.symm, fun k _ hk => h.block k hk⟩
theorem Below.rd {R B : Nat} {w w' : World} (h : Below B w w') (hB : w.heap.size ≤ B) : Rd R w w' := ⟨h.os, h.tape, h.output, h.size, fun k hk _ => h.block k (by omega)⟩
theorem Rd.below {R B : Nat} {w w' : World} (h : Rd R w w') (hB : B ≤ R) (hs : B ≤ w.heap.size) : Below B w w' := ⟨h.os, h.tape, h.output, h.size, fun k hk => h.block k (by omega) (by omega)⟩
/-- The reader has come to place p of the bytes, or they are no entry's. -/
def Trk (bs : List Int) (p : Nat) (l : List Int) (bad : Bool) : Prop := ByteL l ∧ l.length ≤ 1000000 ∧ (bad = false → l = bs.drop p ∧ p ≤ bs.length) ∧ (bad = true → ¬ OkG bs)
theorem ByteL.drop {bs : List Int} (h : ByteL bs) (k : Nat) : ByteL (bs.drop k) := by
  rw [byteL_iff] at h ⊢
  exact fun x hx => h x (List.mem_of_mem_drop hx)
theorem zz_drop (bs : List Int) (p j : Nat) : zz (bs.drop p) j = zz bs (p + j) := by
  unfold zz
  rw [List.getD_eq_getElem?_getD, List.getD_eq_getElem?_getD, List.getElem?_drop]
theorem rNum_trk (R : Nat) (bs l : List Int) (bad : Bool) (p n : Nat) (hn : 0 < n ∧ n ≤ 4) (w : World) (h : RG w R l bad) (ht : Trk bs p l bad) (hT : bs.length < p + n → ¬ OkG bs) :
    Calls Try.prog 35 #[.pointer (some ⟨R, 0, none⟩), .int .i64 n] w fun e w' => ∃ v l' bad', e = .returned (.int .u64 v) ∧ RG w' R l' bad' ∧ Trk bs (p + n) l' bad' ∧ (bad' = false → bad = false ∧ v = hvv (bs.drop p) n 0) ∧ (0 ≤ v ∧ v < 4294967296) ∧ Rd R w w' := by
  obtain ⟨h1, h2, h3, h4⟩ := ht
  by_cases hg : bad = false ∧ n ≤ l.length
  · obtain ⟨rfl, hl⟩ := hg
    refine (rNum_good R l n hn w h h1 hl h2).mono ?_
    rintro e w' ⟨rfl, hr, ho⟩
    obtain ⟨e1, e2⟩ := h3 rfl
    have hb := hvv_bd h1 n 0
    have hp : (256 : Int) ^ n ≤ 4294967296 := by
      rcases (by omega : n = 1 ∨ n = 2 ∨ n = 3 ∨ n = 4) with e | e | e | e <;> rw [e] <;> decide
    refine ⟨_, _, _, rfl, hr, ⟨h1.drop n, by rw [List.length_drop]; omega, fun _ => ⟨by rw [e1, List.drop_drop], ?_⟩, fun h => by cases h⟩, fun _ => ⟨rfl, by rw [← e1]⟩, by omega, ho.rd⟩
    rw [e1, List.length_drop] at hl
    omega
  · refine (rNum_bad R l bad n hn w h ?_).mono ?_
    · cases bad with
      | true => exact Or.inl rfl
      | false => exact Or.inr (by have : ¬ n ≤ l.length := fun h => hg ⟨rfl, h⟩; omega)
    · rintro e w' ⟨rfl, hr, ho⟩
      refine ⟨_, _, _, rfl, hr, ⟨fun i => by unfold zz; simp, by simp, fun h => by (cases h), fun _ => ?_⟩, fun h => by (cases h), by omega, ho.rd⟩
      cases bad with
      | true => exact h4 rfl
      | false =>
        obtain ⟨e1, e2⟩ := h3 rfl
        refine hT ?_
        have : ¬ n ≤ l.length := fun h => hg ⟨rfl, h⟩
        rw [e1, List.length_drop] at this
        omega
theorem rNum1_trk (R : Nat) (bs l : List Int) (bad : Bool) (p : Nat) (w : World) (h : RG w R l bad) (ht : Trk bs p l bad) (hT : bs.length < p + 1 → ¬ OkG bs) :
    Calls Try.prog 35 #[.pointer (some ⟨R, 0, none⟩), .int .i64 1] w fun e w' => ∃ v l' bad', e = .returned (.int .u64 v) ∧ RG w' R l' bad' ∧ Trk bs (p + 1) l' bad' ∧ (bad' = false → bad = false ∧ v = zz bs p) ∧ (0 ≤ v ∧ v < 4294967296) ∧ Rd R w w' := by
  refine (rNum_trk R bs l bad p 1 (by omega) w h ht hT).mono ?_
  rintro e w' ⟨v, l', bad', h1, h2, h3, h4, h5, h6⟩
  refine ⟨v, l', bad', h1, h2, h3, fun h => ⟨(h4 h).1, ?_⟩, h5, h6⟩
  rw [(h4 h).2]
  show 0 * 256 + zz (bs.drop p) 0 = _
  rw [zz_drop]
  simp
theorem rInt_trk (R : Nat) (bs l : List Int) (bad : Bool) (p n : Nat) (hn : 0 < n ∧ n ≤ 4) (w : World) (h : RG w R l bad) (ht : Trk bs p l bad) (hT : bs.length < p + n → ¬ OkG bs) :
    Calls Try.prog 29 #[.pointer (some ⟨R, 0, none⟩), .int .i64 n] w fun e w' => ∃ v l' bad', e = .returned (.int .i64 v) ∧ RG w' R l' bad' ∧ Trk bs (p + n) l' bad' ∧ (bad' = false → bad = false ∧ v = hvv (bs.drop p) n 0) ∧ (0 ≤ v ∧ v < 4294967296) ∧ Rd R w w' := by
  go_enter Try.func29, Try.ntmps29
  go_wp2_with fail
  refine (rNum_trk R bs l bad p n hn w h ht hT).mono ?_
  rintro e w' ⟨v, l', bad', rfl, h2, h3, h4, h5, h6⟩
  have hv := IntWalk.i64_in v (by omega)
  have H2 := Lib.hid h2
  have H3 := Lib.hid h3
  have H4 := Lib.hid h4
  have H5 := Lib.hid h5
  have H6 := Lib.hid h6
  clear h2 h3 h4 h6
  go_wp2_with fail
  go_ret
  exact ⟨v, l', bad', by first | rfl | rw [hv], H2.out, H3.out, H4.out, H5.out, H6.out⟩
theorem rInt1_trk (R : Nat) (bs l : List Int) (bad : Bool) (p : Nat) (w : World) (h : RG w R l bad) (ht : Trk bs p l bad) (hT : bs.length < p + 1 → ¬ OkG bs) :
    Calls Try.prog 29 #[.pointer (some ⟨R, 0, none⟩), .int .i64 1] w fun e w' => ∃ v l' bad', e = .returned (.int .i64 v) ∧ RG w' R l' bad' ∧ Trk bs (p + 1) l' bad' ∧ (bad' = false → bad = false ∧ v = zz bs p) ∧ (0 ≤ v ∧ v < 4294967296) ∧ Rd R w w' := by
  refine (rInt_trk R bs l bad p 1 (by omega) w h ht hT).mono ?_
  rintro e w' ⟨v, l', bad', h1, h2, h3, h4, h5, h6⟩
  refine ⟨v, l', bad', h1, h2, h3, fun h => ⟨(h4 h).1, ?_⟩, h5, h6⟩
  rw [(h4 h).2]
  show 0 * 256 + zz (bs.drop p) 0 = _
  rw [zz_drop]
  simp
theorem rInt2_trk (R : Nat) (bs l : List Int) (bad : Bool) (p : Nat) (w : World) (h : RG w R l bad) (ht : Trk bs p l bad) (hT : bs.length < p + 2 → ¬ OkG bs) :
    Calls Try.prog 29 #[.pointer (some ⟨R, 0, none⟩), .int .i64 2] w fun e w' => ∃ v l' bad', e = .returned (.int .i64 v) ∧ RG w' R l' bad' ∧ Trk bs (p + 2) l' bad' ∧ (bad' = false → bad = false ∧ v = zz bs p + zz bs (p + 1) * 256) ∧ (0 ≤ v ∧ v < 4294967296) ∧ Rd R w w' := by
  refine (rInt_trk R bs l bad p 2 (by omega) w h ht hT).mono ?_
  rintro e w' ⟨v, l', bad', h1, h2, h3, h4, h5, h6⟩
  refine ⟨v, l', bad', h1, h2, h3, fun h => ⟨(h4 h).1, ?_⟩, h5, h6⟩
  rw [(h4 h).2]
  show (0 * 256 + zz (bs.drop p) (0 + 1)) * 256 + zz (bs.drop p) 0 = _
  rw [zz_drop, zz_drop]
  simp
  omega
theorem rInt4_trk (R : Nat) (bs l : List Int) (bad : Bool) (w : World) (h : RG w R l bad) (ht : Trk bs 0 l bad) (hT : bs.length < 4 → ¬ OkG bs) :
    Calls Try.prog 29 #[.pointer (some ⟨R, 0, none⟩), .int .i64 4] w fun e w' => ∃ v l' bad', e = .returned (.int .i64 v) ∧ RG w' R l' bad' ∧ Trk bs 4 l' bad' ∧ (bad' = false → bad = false ∧ v = gFr bs) ∧ (0 ≤ v ∧ v < 4294967296) ∧ Rd R w w' := by
  refine (rInt_trk R bs l bad 0 4 (by omega) w h ht hT).mono ?_
  rintro e w' ⟨v, l', bad', h1, h2, h3, h4, h5, h6⟩
  refine ⟨v, l', bad', h1, h2, h3, fun h => ⟨(h4 h).1, ?_⟩, h5, h6⟩
  rw [(h4 h).2]
  show (((0 * 256 + zz (bs.drop 0) (0 + 1 + 1 + 1)) * 256 + zz (bs.drop 0) (0 + 1 + 1)) * 256 + zz (bs.drop 0) (0 + 1)) * 256 + zz (bs.drop 0) 0 = _
  unfold gFr
  simp
  omega
theorem rEnd_any (R : Nat) (l : List Int) (bad : Bool) (w : World) (h : RG w R l bad) :
    Calls Try.prog 31 #[.pointer (some ⟨R, 0, none⟩)] w fun e w' => e = .returned (.bool (!bad && decide (l = []))) ∧ w' = w := by
  have c0 := h.c0
  have c1 := h.c1
  cases bad with
  | true =>
    go_enter Try.func31, Try.ntmps31
    go_wp2_with fail
    go_ret
    exact ⟨rfl, rfl⟩
  | false =>
    have he : (strOfNums l).toList.isEmpty = decide (l = []) := by
      rw [Lib.strOfNums_toList]
      cases l <;> rfl
    go_enter Try.func31, Try.ntmps31
    go_wp2_with fail
    go_ret
    exact ⟨by simp [he], rfl⟩
end Go.Proofs.Ytmhgkkfeohaojaa
