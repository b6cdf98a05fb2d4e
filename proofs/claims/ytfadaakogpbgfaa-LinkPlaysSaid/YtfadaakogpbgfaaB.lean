/-
  Serial: the contracts over natural numbers, and that the few examples are told.
-/
import Derived.Test.YtfadaakogpbgfaaA
namespace Go.Proofs.Ytfadaakogpbgfaa
set_option linter.unusedVariables false
open Go.ChangeShapes Go.WideShapes Go.ChangeAt Go.RowKit

theorem u32_bits (a b : Nat) (ha : a < 2 ^ 32) (hb : b < 2 ^ 32) :
    bits .and .u32 (a : Int) (b : Int) = ((a &&& b : Nat) : Int) ∧ bits .or .u32 (a : Int) (b : Int) = ((a ||| b : Nat) : Int) := by
  have h := bits_nat .u32 32 (by decide) (fun n h0 h1 => by rw [IntKind.wrap_u32]; omega) a b ha hb
  exact ⟨h.1, h.2⟩

def bitN (n : Int) : Nat := 2 ^ (n.toNat - 1)
theorem bitN_lt {n : Int} (h : 1 ≤ n) (h' : n ≤ 32) : bitN n < 2 ^ 32 := by
  unfold bitN; exact Nat.pow_lt_pow_right (by omega) (by omega)
theorem bitN_cast {n : Int} (h : 1 ≤ n) (h' : n ≤ 32) : (2 : Int) ^ (n.toNat - 1) % 4294967296 = (bitN n : Int) := by
  have := bitN_lt h h'
  rw [Int.emod_eq_of_lt]
  · unfold bitN; push_cast; rfl
  · exact Int.pow_nonneg (by omega)
  · unfold bitN at this
    have h2 : ((2 ^ (n.toNat - 1) : Nat) : Int) < ((4294967296 : Nat) : Int) := Int.ofNat_lt.2 this
    rwa [Int.natCast_pow] at h2

def toldN (s a : Int) (m : Nat) : Bool := way s a == 0 || (decide (1 ≤ way s a) && decide (way s a ≤ 32) && m.testBit ((way s a).toNat - 1))

theorem toldF_eq (s a : Int) (m : Nat) (hm : m < 2 ^ 32) : toldF s a m = toldN s a m := by
  unfold toldF toldN
  congr 1
  by_cases h1 : 1 ≤ way s a
  · by_cases h2 : way s a ≤ 32
    · simp only [h1, h2, decide_true, Bool.true_and]
      have e : (m : Int) / 2 ^ ((way s a).toNat - 1) = ((m / 2 ^ ((way s a).toNat - 1) : Nat) : Int) := by push_cast; rfl
      rw [e, show (1 : Int) = ((1 : Nat) : Int) from rfl, (u32_bits _ 1 (Nat.lt_of_le_of_lt (Nat.div_le_self _ _) hm) (by decide)).1]
      rw [Nat.testBit_eq_decide_div_mod_eq, Nat.and_one_is_mod]
      generalize m / 2 ^ ((way s a).toNat - 1) % 2 = x
      by_cases hx : x = 1
      · subst hx; rfl
      · simp [hx]; omega
    · simp [h2]
  · simp [h1]

def noteB (is : Bool) (l s : Int) (m : Nat) : Bool :=
  if is = false then true else if 0 < way l s then true else if way l s = 0 then false else if way l s < -32 then false else !(m.testBit ((-way l s).toNat - 1))
def noteL (is : Bool) (l s : Int) : Int := if is = false then s else if 0 < way l s then s else l
def noteM (is : Bool) (l s : Int) (m : Nat) : Nat :=
  if is = false then m else if 32 < way l s then 0 else if 0 < way l s then (m * 2 ^ (way l s).toNat) % 2 ^ 32 ||| bitN (way l s)
  else if way l s = 0 then m else if way l s < -32 then m else m ||| bitN (-way l s)

theorem noteM_lt (is : Bool) (l s : Int) (m : Nat) (hm : m < 2 ^ 32) : noteM is l s m < 2 ^ 32 := by
  unfold noteM
  repeat' split
  all_goals first | assumption | omega | skip
  · exact Nat.or_lt_two_pow (Nat.mod_lt _ (by decide)) (bitN_lt (by omega) (by omega))
  · exact Nat.or_lt_two_pow hm (bitN_lt (by omega) (by omega))

theorem and_pow_ne (m i : Nat) : ((m &&& 2 ^ i : Nat) != 0) = m.testBit i := by
  cases h : m.testBit i with
  | true =>
    rw [bne_iff_ne]; intro h0
    have h1 : (m &&& 2 ^ i).testBit i = true := by rw [Nat.testBit_and, h, Nat.testBit_two_pow_self]; rfl
    rw [h0] at h1; simp at h1
  | false =>
    have h0 : m &&& 2 ^ i = 0 := by
      apply Nat.eq_of_testBit_eq; intro k
      rw [Nat.testBit_and, Nat.testBit_two_pow]
      by_cases hk : i = k
      · subst hk; simp [h]
      · simp [hk]
    rw [h0]; rfl

theorem note_any (b : Nat) (is : Bool) (l s : Int) (m : Nat) (hm : m < 2 ^ 32) (w : World) (h : HeardAt w b is l m) :
    Calls Try.prog 25 #[.pointer (some ⟨b, 0, none⟩), .int .u16 s] w fun e w' => e = .returned (.bool (noteB is l s m)) ∧ HeardAt w' b true (noteL is l s) (noteM is l s m) ∧ Only b w w' := by
  cases is with
  | false => exact (note_1 b l m s w h).mono fun e w' h => by simpa [noteB, noteL, noteM] using h
  | true =>
    by_cases h1 : 32 < way l s
    · exact (note_2 b l m s w h h1).mono fun e w' h => by
        have : 0 < way l s := by omega
        simpa [noteB, noteL, noteM, h1, this] using h
    by_cases h2 : 0 < way l s
    · refine (note_3 b l m s w h h2 (by omega)).mono fun e w' h => ?_
      rw [bitN_cast (by omega) (by omega)] at h
      have e : IntKind.u32.wrap ((m : Int) * 2 ^ (way l s).toNat) = (((m * 2 ^ (way l s).toNat) % 2 ^ 32 : Nat) : Int) := by
        rw [IntKind.wrap_u32, Int.natCast_emod, Int.natCast_mul, Int.natCast_pow]; rfl
      rw [e, (u32_bits _ _ (Nat.mod_lt _ (by decide)) (bitN_lt (by omega) (by omega))).2] at h
      simpa [noteB, noteL, noteM, h1, h2] using h
    by_cases h3 : way l s = 0
    · exact (note_4 b l m s w h h3).mono fun e w' h => by simpa [noteB, noteL, noteM, h1, h2, h3] using h
    by_cases h4 : way l s < -32
    · exact (note_5 b l m s w h h4).mono fun e w' h => by simpa [noteB, noteL, noteM, h1, h2, h3, h4] using h
    have hb := bitN_cast (n := -way l s) (by omega) (by omega)
    have hlt := bitN_lt (n := -way l s) (by omega) (by omega)
    have hand : (bits BinOp.and IntKind.u32 (m : Int) (2 ^ ((-way l s).toNat - 1) % 4294967296) != 0) = m.testBit ((-way l s).toNat - 1) := by
      rw [hb, (u32_bits _ _ hm hlt).1, ← and_pow_ne]
      unfold bitN
      generalize (m &&& _) = x
      cases x <;> simp <;> omega
    cases ht : m.testBit ((-way l s).toNat - 1) with
    | true =>
      refine (note_6 b l m s w h (by omega) (by omega) (by rw [hand, ht])).mono fun e w' h => ?_
      have e2 : m ||| bitN (-way l s) = m := by
        apply Nat.eq_of_testBit_eq; intro i
        simp only [Nat.testBit_or, bitN, Nat.testBit_two_pow]
        by_cases hi : (-way l s).toNat - 1 = i
        · subst hi; simp [ht]
        · simp [hi]
      simpa [noteB, noteL, noteM, h1, h2, h3, h4, ht, e2] using h
    | false =>
      refine (note_7 b l m s w h (by omega) (by omega) (by rw [hand, ht])).mono fun e w' h => ?_
      rw [hb, (u32_bits _ _ hm hlt).2] at h
      simpa [noteB, noteL, noteM, h1, h2, h3, h4, ht] using h

theorem told_any' (s a : Int) (m : Nat) (hm : m < 2 ^ 32) (w : World) :
    Calls Try.prog 24 #[.int .u16 s, .int .u16 a, .int .u32 m] w fun e w' => e = .returned (.bool (toldN s a m)) ∧ w = w' := by
  rw [← toldF_eq s a m hm]; exact told_any s a m w

theorem heardAt_new (w : World) : HeardAt (w.alloc (Obj.cells #[Value.bool false, Value.int IntKind.u16 0, Value.int IntKind.u32 0] 61)) w.heap.size false 0 (0 : Nat) := by
  constructor <;> go_simp

theorem HeardAt.drewN {w : World} {b : Nat} {is : Bool} {l m : Int} (h : HeardAt w b is l m) (n : Nat) : HeardAt (w.drewN n) b is l m := ⟨h.c0, h.c1, h.c2, h.f0, h.f1, h.f2⟩

theorem way_eq (a b : Int) : way a b = (b - a + 32768) % 65536 - 32768 := by
  unfold way IntKind.wrap; simp [IntKind.bits, IntKind.signed]; omega
theorem wrap_u16 (n : Int) : IntKind.u16.wrap n = n % 65536 := by simp [IntKind.wrap, IntKind.bits, IntKind.signed]

end Go.Proofs.Ytfadaakogpbgfaa
