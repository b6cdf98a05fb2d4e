/-
  Wire: what bytes say, in plain words.
-/
import Derived.Test.YtembppihfcclcaaMJ
namespace Go.Proofs.Ytembppihfcclcaa
set_option linter.unusedVariables false
open Go.ChangeShapes Go.WideShapes Go.ChangeAt Go.RowKit

set_option linter.unusedSimpArgs false
def gK (bs : List Int) : Int := leV bs 0 1
def wdt (j : Nat) : Nat := if j = 0 ∨ j = 3 then 1 else if j = 1 ∨ j = 4 ∨ j = 5 then 2 else if j = 7 then 8 else 4
/-- Where the j-th part stands. -/
def gPs (bs : List Int) : Nat → Nat
  | 0 => 10
  | j + 1 => gPs bs j + (if hasB (gK bs) j then wdt j else 0)
def gV (bs : List Int) (j : Nat) : Int := if hasB (gK bs) j then leV bs (gPs bs j) (wdt j) else 0
def gF (bs : List Int) (k : Nat) : Int := if k = 0 then leV bs 0 1 else if k = 1 then leV bs 1 1 else if k = 2 then leV bs 2 2 else if k = 3 then leV bs 4 2 else if k = 4 then leV bs 6 4 else gV bs (k - 5)
def gNi (bs : List Int) : Nat := (if hasB (gK bs) 8 then leV bs (gPs bs 8) 1 else 0).toNat
def gQi (bs : List Int) : Nat := gPs bs 8 + (if hasB (gK bs) 8 then 1 else 0)
def gIn (bs : List Int) (j : Nat) : Int := if j % 3 = 2 then zz bs (gQi bs + j) else sgn (zz bs (gQi bs + j))
def gQl (bs : List Int) : Nat := gQi bs + 3 * gNi bs
def gNl (bs : List Int) : Nat := (if hasB (gK bs) 9 then leV bs (gQl bs) 1 else 0).toNat
def gQe (bs : List Int) : Nat → Nat
  | 0 => gQl bs + (if hasB (gK bs) 9 then 1 else 0)
  | m + 1 => gQe bs m + 2 + eLen bs (gQe bs m)
def gD (bs : List Int) (m : Nat) : Ent := ⟨gFr (eBy bs (gQe bs m)), gN (eBy bs (gQe bs m)), gE (eBy bs (gQe bs m)), gI (eBy bs (gQe bs m))⟩
def gQd (bs : List Int) : Nat := gQe bs (gNl bs)
def gNd (bs : List Int) : Nat := (if hasB (gK bs) 10 then leV bs (gQd bs) 1 else 0).toNat
def gQt (bs : List Int) : Nat := gQd bs + (if hasB (gK bs) 10 then 1 else 0)
def gDt (bs : List Int) : List Int := (bs.drop (gQt bs)).take (gNd bs)
def gEnd (bs : List Int) : Nat := gQt bs + gNd bs
/-- The message that bytes say. -/
def prsM (bs : List Int) : Msg := ⟨gF bs, gNi bs, gIn bs, gNl bs, gD bs, gDt bs⟩
def POk (bs : List Int) : Prop := gEnd bs ≤ bs.length ∧ ∀ m, m < gNl bs → OkG (eBy bs (gQe bs m))
theorem gPs_mono (bs : List Int) (i j : Nat) (h : i ≤ j) : gPs bs i ≤ gPs bs j := by
  induction j with
  | zero => have : i = 0 := by omega
            subst this; exact Nat.le_refl _
  | succ j ih =>
    by_cases e : i = j + 1
    · subst e; exact Nat.le_refl _
    · have h1 := ih (by omega)
      have h2 : gPs bs (j + 1) = gPs bs j + (if hasB (gK bs) j then wdt j else 0) := rfl
      omega
theorem gQe_mono (bs : List Int) (i j : Nat) (h : i ≤ j) : gQe bs i ≤ gQe bs j := by
  induction j with
  | zero => have : i = 0 := by omega
            subst this; exact Nat.le_refl _
  | succ j ih =>
    by_cases e : i = j + 1
    · subst e; exact Nat.le_refl _
    · have h1 := ih (by omega)
      have h2 : gQe bs (j + 1) = gQe bs j + 2 + eLen bs (gQe bs j) := rfl
      omega
theorem gEnd_ge (bs : List Int) : 10 ≤ gPs bs 0 ∧ gPs bs 8 ≤ gQi bs ∧ gQi bs ≤ gQl bs ∧ gQl bs ≤ gQe bs 0 ∧ gQe bs 0 ≤ gQd bs ∧ gQd bs ≤ gQt bs ∧ gQt bs ≤ gEnd bs := by
  refine ⟨Nat.le_refl _, ?_, ?_, ?_, gQe_mono bs 0 _ (Nat.zero_le _), ?_, ?_⟩
  · unfold gQi; omega
  · unfold gQl; omega
  · show _ ≤ gQl bs + _; omega
  · unfold gQt; omega
  · unfold gEnd; omega
/-- Where one reads beyond the end there is no message. -/
theorem not_pok_hd {bs : List Int} (h : bs.length < 10) : ¬ POk bs := fun hp => by
  have h1 := gEnd_ge bs
  have h2 := gPs_mono bs 0 8 (by omega)
  have h3 := hp.1
  omega
theorem not_pok_part {bs : List Int} {j : Nat} (hj : j < 8) (h : bs.length < gPs bs (j + 1)) : ¬ POk bs := fun hp => by
  have h1 := gEnd_ge bs
  have h2 := gPs_mono bs (j + 1) 8 (by omega)
  have h3 := hp.1
  omega
theorem not_pok_qi {bs : List Int} (h : bs.length < gQi bs) : ¬ POk bs := fun hp => by
  have h1 := gEnd_ge bs
  have h3 := hp.1
  omega
theorem not_pok_in {bs : List Int} {i : Nat} (hi : i < gNi bs) (h : bs.length < gQi bs + 3 * i + 3) : ¬ POk bs := fun hp => by
  have h1 := gEnd_ge bs
  have h3 := hp.1
  have h4 : gQl bs = gQi bs + 3 * gNi bs := rfl
  omega
theorem not_pok_q0 {bs : List Int} (h : bs.length < gQe bs 0) : ¬ POk bs := fun hp => by
  have h1 := gEnd_ge bs
  have h3 := hp.1
  omega
theorem not_pok_log {bs : List Int} {m : Nat} (hm : m < gNl bs) (h : bs.length < gQe bs m + 2 + eLen bs (gQe bs m) ∨ ¬ OkG (eBy bs (gQe bs m))) : ¬ POk bs := fun hp => by
  rcases h with h | h
  · have h1 := gEnd_ge bs
    have h2 := gQe_mono bs (m + 1) (gNl bs) (by omega)
    have h3 := hp.1
    have h4 : gQe bs (m + 1) = gQe bs m + 2 + eLen bs (gQe bs m) := rfl
    have h5 : gQd bs = gQe bs (gNl bs) := rfl
    omega
  · exact h (hp.2 m hm)
theorem not_pok_qt {bs : List Int} (h : bs.length < gQt bs) : ¬ POk bs := fun hp => by
  have h1 := gEnd_ge bs
  have h3 := hp.1
  omega
theorem not_pok_end {bs : List Int} (h : bs.length < gEnd bs) : ¬ POk bs := fun hp => by
  have h3 := hp.1
  omega
theorem gNi_lt {bs : List Int} (h : ByteL bs) : gNi bs < 256 := by
  have := leV_lt h (gPs bs 8)
  have := leV_nn h (gPs bs 8) 1
  unfold gNi
  split <;> omega
theorem gNl_lt {bs : List Int} (h : ByteL bs) : gNl bs < 256 := by
  have := leV_lt h (gQl bs)
  have := leV_nn h (gQl bs) 1
  unfold gNl
  split <;> omega
theorem gNd_lt {bs : List Int} (h : ByteL bs) : gNd bs < 256 := by
  have := leV_lt h (gQd bs)
  have := leV_nn h (gQd bs) 1
  unfold gNd
  split <;> omega
/-- The cells of inputs. -/
def inL3 (I : Nat → Int) : Nat → List Value
  | 0 => []
  | n + 1 => inL3 I n ++ [.int .i8 (I (n * 3)), .int .i8 (I (n * 3 + 1)), .int .u8 (I (n * 3 + 2))]
theorem inL3_len (I : Nat → Int) : ∀ n, (inL3 I n).length = n * 3
  | 0 => rfl
  | n + 1 => by unfold inL3; rw [List.length_append, inL3_len I n]; show _ + 3 = _; omega
theorem inL3_get (I : Nat → Int) : ∀ n i, i < n → (inL3 I n)[i * 3]? = some (.int .i8 (I (i * 3))) ∧ (inL3 I n)[i * 3 + 1]? = some (.int .i8 (I (i * 3 + 1))) ∧ (inL3 I n)[i * 3 + 2]? = some (.int .u8 (I (i * 3 + 2)))
  | 0, i, h => by omega
  | n + 1, i, h => by
    unfold inL3
    by_cases e : i = n
    · subst e
      have h0 := inL3_len I i
      refine ⟨?_, ?_, ?_⟩
      · rw [List.getElem?_append_right (by omega), h0, Nat.sub_self]; rfl
      · rw [List.getElem?_append_right (by omega), h0, show i * 3 + 1 - i * 3 = 1 by omega]; rfl
      · rw [List.getElem?_append_right (by omega), h0, show i * 3 + 2 - i * 3 = 2 by omega]; rfl
    · have h0 := inL3_len I n
      rw [List.getElem?_append_left (by omega), List.getElem?_append_left (by omega), List.getElem?_append_left (by omega)]
      exact inL3_get I n i (by omega)
/-- A row of inputs of the call's own, in a block from number B on. -/
def OwnI (w : World) (B : Nat) (v : Value) (n : Nat) (I : Nat → Int) : Prop := w.ownsRow B 34 3 v n (inL3 I n)
theorem OwnI.below {w w' : World} {B B' n : Nat} {v : Value} {I : Nat → Int} (h : OwnI w B v n I) (hb : Below B' w w') (hs : w.heap.size ≤ B') : OwnI w' B v n I := by
  refine World.ownsRow.kept (row := none) h ⟨hb.os, hb.tape, hb.output, hb.size, fun k hk _ => hb.block k (by omega)⟩ ?_
  cases hv : v.ownBlock <;> simp
theorem OwnI.rdW {w w' : World} {B R n : Nat} {v : Value} {I : Nat → Int} (h : OwnI w B v n I) (hb : RdW R w w') (hR : R < B) : OwnI w' B v n I := by
  refine World.ownsRow.kept (row := some R) h ⟨hb.os, hb.tape, hb.output, hb.size, fun k hk hne => hb.block k hk (fun e => hne (by rw [e]))⟩ ?_
  cases hv : v.ownBlock with
  | none => exact Or.inl rfl
  | some g => exact Or.inr (fun e => by have := (World.ownsRow.lt h g hv).1; injection e with e; omega)
theorem OwnI.inps {w : World} {B n : Nat} {v : Value} {I : Nat → Int} (h : OwnI w B v n I) : InpsV w v n I := by
  have h' := h
  rcases h.2 with ⟨rfl, rfl⟩ | ⟨g, cap, cur, rfl, hb, hg, h1, h2, -⟩
  · exact ⟨none, 0, rfl, Nat.le_refl _, Nat.zero_le _, fun h => absurd h (by omega)⟩
  · refine ⟨_, cap, rfl, h1, h2, fun _ => ⟨g, 0, rfl, (Array.getElem?_eq_some_iff.1 hg).1, ?_⟩⟩
    have hc : ∀ j u, (inL3 I n)[j]? = some u → w.cell? ⟨g, 0 + j, none⟩ = some u := fun j u hj => by
      have := World.ownsRow.cells h' (g := g) rfl j u hj
      rwa [Go.WideShapes.add_plain] at this
    exact ⟨fun i hi => hc _ _ (inL3_get I n i hi).1, fun i hi => hc _ _ (inL3_get I n i hi).2.1, fun i hi => hc _ _ (inL3_get I n i hi).2.2⟩
/-- The cells of entries, each with its own slice of events. -/
def enL (D : Nat → Ent) (S : Nat → Value) : Nat → List Value
  | 0 => []
  | n + 1 => enL D S n ++ entL (D n).fr (S n) (D n).I
theorem enL_len (D : Nat → Ent) (S : Nat → Value) : ∀ n, (enL D S n).length = n * 26
  | 0 => rfl
  | n + 1 => by unfold enL; rw [List.length_append, enL_len D S n, entL_len]; omega
theorem enL_get (D : Nat → Ent) (S : Nat → Value) : ∀ n i k, i < n → k < 26 → (enL D S n)[i * 26 + k]? = some (entF (D i).fr (S i) (D i).I k)
  | 0, i, k, h, _ => by omega
  | n + 1, i, k, h, hk => by
    have h0 := enL_len D S n
    unfold enL
    by_cases e : i = n
    · subst e
      rw [List.getElem?_append_right (by omega), h0, show i * 26 + k - i * 26 = k by omega]
      exact entL_get _ _ _ _ hk
    · rw [List.getElem?_append_left (by omega)]
      exact enL_get D S n i k (by omega) hk
/-- A row of entries of the call's own; each one's events lie beside it, in rows of the call's own too. -/
structure OwnL (w : World) (B : Nat) (v : Value) (n : Nat) (D : Nat → Ent) : Prop where
  ex : ∃ S : Nat → Value, w.ownsRow B 37 26 v n (enL D S n) ∧ ∀ i, i < n → OwnE w B (S i) (D i).n (D i).E ∧ ((S i).ownBlock = none ∨ (S i).ownBlock ≠ v.ownBlock)
theorem OwnE.rdW {w w' : World} {B R n : Nat} {v : Value} {E : Nat → Nat → Int} (h : OwnE w B v n E) (hb : RdW R w w') (hR : R < B) : OwnE w' B v n E := by
  refine World.ownsRow.kept (row := some R) h ⟨hb.os, hb.tape, hb.output, hb.size, fun k hk hne => hb.block k hk (fun e => hne (by rw [e]))⟩ ?_
  cases hv : v.ownBlock with
  | none => exact Or.inl rfl
  | some g => exact Or.inr (fun e => by have := (World.ownsRow.lt h g hv).1; injection e with e; omega)
theorem OwnL.rdW {w w' : World} {B R n : Nat} {v : Value} {D : Nat → Ent} (h : OwnL w B v n D) (hb : RdW R w w') (hR : R < B) : OwnL w' B v n D := by
  obtain ⟨S, h1, h2⟩ := h.ex
  refine ⟨S, ?_, fun i hi => ⟨(h2 i hi).1.rdW hb hR, (h2 i hi).2⟩⟩
  refine World.ownsRow.kept (row := some R) h1 ⟨hb.os, hb.tape, hb.output, hb.size, fun k hk hne => hb.block k hk (fun e => hne (by rw [e]))⟩ ?_
  cases hv : v.ownBlock with
  | none => exact Or.inl rfl
  | some g => exact Or.inr (fun e => by have := (World.ownsRow.lt h1 g hv).1; injection e with e; omega)
theorem OwnB.rdW {w w' : World} {B R : Nat} {v : Value} {bs : List Int} (h : OwnB w B v bs) (hb : RdW R w w') (hR : R < B) : OwnB w' B v bs := by
  refine World.ownsRow.kept (row := some R) h ⟨hb.os, hb.tape, hb.output, hb.size, fun k hk hne => hb.block k hk (fun e => hne (by rw [e]))⟩ ?_
  cases hv : v.ownBlock with
  | none => exact Or.inl rfl
  | some g => exact Or.inr (fun e => by have := (World.ownsRow.lt h g hv).1; injection e with e; omega)
theorem OwnL.ents {w : World} {B n : Nat} {v : Value} {D : Nat → Ent} (h : OwnL w B v n D) : EntsV w v n D := by
  obtain ⟨S, h1, h2⟩ := h.ex
  rcases h1.2 with ⟨rfl, rfl⟩ | ⟨g, cap, cur, rfl, hb, hg, h3, h4, -⟩
  · exact ⟨none, 0, rfl, Nat.le_refl _, Nat.zero_le _, fun h => absurd h (by omega)⟩
  · refine ⟨_, cap, rfl, h3, h4, fun _ => ⟨g, 0, rfl, (Array.getElem?_eq_some_iff.1 hg).1, fun i hi => ⟨S i, ⟨fun k hk => ?_⟩, (h2 i hi).1.evs⟩⟩⟩
    have := World.ownsRow.cells h1 (g := g) rfl (i * 26 + k) _ (enL_get D S n i k hi hk)
    rw [Go.WideShapes.add_plain] at this
    rw [show 0 + i * 26 + k = 0 + (i * 26 + k) by omega]
    exact this
end Go.Proofs.Ytembppihfcclcaa
