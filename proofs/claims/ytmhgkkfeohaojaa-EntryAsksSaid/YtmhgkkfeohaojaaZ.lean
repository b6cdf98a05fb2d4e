/-
  Entry: the reference's reader.
-/
import Derived.Test.YtmhgkkfeohaojaaY
namespace Go.Proofs.Ytmhgkkfeohaojaa
set_option linter.unusedVariables false
open Go.ChangeShapes Go.WideShapes Go.ChangeAt Go.RowKit

set_option linter.unusedSimpArgs false
/-- The reader at block R: what is left, and whether it went wrong. -/
structure RG (w : World) (R : Nat) (l : List Int) (bad : Bool) : Prop where
  c0 : w.cell? ⟨R, 0, none⟩ = some (.string (strOfNums l))
  c1 : w.cell? ⟨R, 1, none⟩ = some (.bool bad)
  f0 : w.frozen? ⟨R, 0, none⟩ = false
  f1 : w.frozen? ⟨R, 1, none⟩ = false
theorem RG.block {w w' : World} {R : Nat} {l : List Int} {bad : Bool} (h : RG w R l bad) (k : w'.heap[R]? = w.heap[R]?) : RG w' R l bad :=
  ⟨(World.cell?_of_block k).trans h.c0, (World.cell?_of_block k).trans h.c1, (World.frozen?_of_block k).trans h.f0, (World.frozen?_of_block k).trans h.f1⟩
theorem RG.lt {w : World} {R : Nat} {l : List Int} {bad : Bool} (h : RG w R l bad) : R < w.heap.size := block_of_cell h.c0
def hvv (l : List Int) : Nat → Nat → Int
  | 0, _ => 0
  | m + 1, k => hvv l m (k + 1) * 256 + zz l k
theorem hvv_bd {l : List Int} (h : ByteL l) : ∀ m k, 0 ≤ hvv l m k ∧ hvv l m k < 256 ^ m
  | 0, k => ⟨Int.le_refl _, by show (0 : Int) < 1; omega⟩
  | m + 1, k => by
    have h1 := hvv_bd h m (k + 1)
    have h2 := h k
    show 0 ≤ hvv l m (k + 1) * 256 + zz l k ∧ hvv l m (k + 1) * 256 + zz l k < _
    rw [Int.pow_succ]
    omega
theorem or_u64 (a b : Int) (ha : 0 ≤ a ∧ a < 4294967296) (hb : 0 ≤ b ∧ b < 256) : bits .or .u64 (IntKind.u64.wrap (a * 256)) b = a * 256 + b := by
  obtain ⟨x, rfl⟩ : ∃ x : Nat, a = x := ⟨a.toNat, by omega⟩
  obtain ⟨y, rfl⟩ : ∃ y : Nat, b = y := ⟨b.toNat, by omega⟩
  have e : IntKind.u64.wrap ((x : Int) * 256) = ((x * 256 : Nat) : Int) := by simp [IntKind.wrap, IntKind.bits, IntKind.signed]; omega
  rw [e, (bits_nat .u64 62 (by decide) (fun n h0 h1 => by simp [IntKind.wrap, IntKind.bits, IntKind.signed]; omega) (x * 256) y (by omega) (by omega)).2]
  have e2 : x * 256 ||| y = x * 256 + y := by
    have := Nat.two_pow_add_eq_or_of_lt (i := 8) (b := y) (by omega) x
    rw [Nat.mul_comm x 256]
    exact this.symm
  rw [e2]
  omega
theorem str_get (l : List Int) (hby : ByteL l) (i : Nat) (h : i < (strOfNums l).size) : (((strOfNums l)[i]'h).toNat : Int) = zz l i := by
  have hl : i < l.length := by rwa [strOfNums_size] at h
  have hz := hby i
  have e : ((strOfNums l)[i]'h) = UInt8.ofNat (zz l i).toNat := by
    have e1 : zz l i = l[i] := by unfold zz; simp [List.getD_eq_getElem?_getD, hl]
    rw [e1]
    show ((l.map fun n => UInt8.ofNat n.toNat).toArray)[i]'(by simpa using hl) = _
    rw [List.getElem_toArray, List.getElem_map]
  rw [e, UInt8.toNat_ofNat']
  omega
theorem str_drop (l : List Int) (n : Nat) : (strOfNums l).extract n (strOfNums l).size = strOfNums (l.drop n) := by
  apply ByteArray.ext
  rw [strOfNums_size]
  simp [strOfNums]
  rw [List.take_of_length_le (by simp)]
theorem Only.below' {R : Nat} {w w' : World} (h : Only R w w') : ∀ k, k ≠ R → w'.heap[k]? = w.heap[k]? := h.block
set_option maxHeartbeats 1000000 in
theorem rNum_bad (R : Nat) (l : List Int) (bad : Bool) (n : Nat) (hn : 0 < n ∧ n ≤ 4) (w : World) (h : RG w R l bad) (hb : bad = true ∨ l.length < n) :
    Calls Try.prog 35 #[.pointer (some ⟨R, 0, none⟩), .int .i64 n] w fun e w' => e = .returned (.int .u64 0) ∧ RG w' R [] true ∧ Only R w w' := by
  have c0 := h.c0
  have c1 := h.c1
  have f0 := h.f0
  have f1 := h.f1
  have hsz : ((strOfNums l).size : Int) = l.length := by rw [strOfNums_size]
  have s1 : ∀ u v, ((w.setCell ⟨R, 1, none⟩ u).setCell ⟨R, 0, none⟩ v).cell? ⟨R, 0, none⟩ = some v := fun u v => World.cell?_setCell_same _ _ _ ((World.cell?_setCell_other _ _ _ _ (by simp)).trans c0)
  have s2 : ∀ u v, ((w.setCell ⟨R, 1, none⟩ u).setCell ⟨R, 0, none⟩ v).cell? ⟨R, 1, none⟩ = some u := fun u v => (World.cell?_setCell_other _ _ _ _ (by simp)).trans (World.cell?_setCell_same _ _ _ c1)
  have hr : RG ((w.setCell ⟨R, 1, none⟩ (.bool true)).setCell ⟨R, 0, none⟩ (.string ⟨#[]⟩)) R [] true := ⟨s1 _ _, s2 _ _, by rw [World.frozen?_setCell, World.frozen?_setCell]; exact f0, by rw [World.frozen?_setCell, World.frozen?_setCell]; exact f1⟩
  have ho : Only R w ((w.setCell ⟨R, 1, none⟩ (.bool true)).setCell ⟨R, 0, none⟩ (.string ⟨#[]⟩)) := ((Only.refl R w).setCell rfl _).setCell rfl _
  clear s1 s2
  cases bad with
  | true =>
    go_enter Try.func35, Try.ntmps35
    go_wp2_with fail
    go_ret
    exact ⟨rfl, hr, ho⟩
  | false =>
    have hl : ((strOfNums l).size : Int) < (n : Int) := by rw [hsz]; rcases hb with h | h; cases h; omega
    go_enter Try.func35, Try.ntmps35
    go_wp2_with fail
    go_ret
    exact ⟨rfl, hr, ho⟩
set_option maxHeartbeats 1000000 in
theorem rNum_good (R : Nat) (l : List Int) (n : Nat) (hn : 0 < n ∧ n ≤ 4) (w : World) (h : RG w R l false) (hby : ByteL l) (hl : n ≤ l.length) (hlm : l.length ≤ 1000000) :
    Calls Try.prog 35 #[.pointer (some ⟨R, 0, none⟩), .int .i64 n] w fun e w' => e = .returned (.int .u64 (hvv l n 0)) ∧ RG w' R (l.drop n) false ∧ Only R w w' := by
  have c0 := h.c0
  have c1 := h.c1
  have hsz : ((strOfNums l).size : Int) = l.length := by rw [strOfNums_size]
  have hl : ¬ ((strOfNums l).size : Int) < (n : Int) := by rw [hsz]; omega
  go_enter Try.func35, Try.ntmps35
  go_wp2_with fail
  clear c0 c1
  go_loopw [5, 6] (fun v i wr => ∃ k : Nat, k ≤ n ∧ i = .int .i64 ((k : Int) - 1) ∧ v = .int .u64 (hvv l (n - k) k) ∧ wr = w) (fun _ i _ => (intOf i + 1).toNat)
  case atStart => exact ⟨n, by omega, by go_num, by rw [Nat.sub_self]; rfl, rfl⟩
  case round =>
    obtain ⟨k, hk, rfl, rfl, rfl⟩ := hrel
    have c0 := h.c0
    by_cases hk0 : 0 < k
    · have hki : (0 : Int) ≤ (k : Int) - 1 := by omega
      have hbd := hvv_bd hby (n - k) k
      have hpw : (256 : Int) ^ (n - k) ≤ 16777216 := by
        rcases (by omega : n - k = 0 ∨ n - k = 1 ∨ n - k = 2 ∨ n - k = 3) with e | e | e | e <;> rw [e] <;> decide
      have hz := hby (k - 1)
      have hor := or_u64 (hvv l (n - k) k) (zz l (k - 1)) (by omega) hz
      have hH : hvv l (n - (k - 1)) (k - 1) = hvv l (n - k) k * 256 + zz l (k - 1) := by
        rw [show n - (k - 1) = (n - k) + 1 by omega]
        show hvv l (n - k) (k - 1 + 1) * 256 + _ = _
        rw [show k - 1 + 1 = k by omega]
      have HH := Lib.hid hH
      have HOR := Lib.hid hor
      have HG := Lib.hid (fun h => str_get l hby (k - 1) h)
      have HU := Lib.hid (IntWalk.u64_in (zz l (k - 1)) (by omega))
      clear hbd hpw hz hor hH
      go_wp2_with fail
      refine ⟨⟨k - 1, by omega, by congr 1; omega, ?_, trivial⟩, by simp [intOf]; omega⟩
      rw [HG.out, HU.out, HOR.out, HH.out]
    · obtain rfl : k = 0 := by omega
      have f0 := h.f0
      have hr : RG (wr.setCell ⟨R, 0, none⟩ (.string (strOfNums (l.drop n)))) R (l.drop n) false := ⟨World.cell?_setCell_same _ _ _ c0, (World.cell?_setCell_other _ _ _ _ (by simp)).trans h.c1, by rw [World.frozen?_setCell]; exact h.f0, by rw [World.frozen?_setCell]; exact h.f1⟩
      have ho : Only R wr (wr.setCell ⟨R, 0, none⟩ (.string (strOfNums (l.drop n)))) := (Only.refl R wr).setCell rfl _
      have hd := str_drop l n
      go_wp2_with fail
      go_ret
      exact ⟨rfl, by first | exact hr | (rw [hd]; exact hr), by first | exact ho | (rw [hd]; exact ho)⟩
end Go.Proofs.Ytmhgkkfeohaojaa
