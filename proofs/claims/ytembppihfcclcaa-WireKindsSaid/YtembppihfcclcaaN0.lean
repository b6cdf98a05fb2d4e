/-
  Values of plain types (whole numbers, structs and arrays of these), and slices of such, that came in: their cells.
-/
import Derived.Test.YtembppihfcclcaaRows
import Derived.WalkKit
import Derived.ProofKit
import Derived.OpenShut
import Derived.Deep.Slices
namespace Go.Proofs.Ytembppihfcclcaa
set_option linter.unusedVariables false
open Go.ChangeShapes Go.WideShapes Go.ChangeAt Go.RowKit

/-- The kind of the i-th cell of a plain type. -/
def kindAt (P : Program) : Nat → TypeId → Nat → Option IntKind
  | 0, _, _ => none
  | n + 1, t, i => match P.underlying t with
    | some (.int k) => if i = 0 then some k else none
    | some (.struct fs) => fs.toList.findSome? fun f => if f.offset ≤ i ∧ i < f.offset + P.cellsOf f.type then kindAt P n f.type (i - f.offset) else none
    | some (.array m e) => if i / P.cellsOf e < m ∧ 0 < P.cellsOf e then kindAt P n e (i % P.cellsOf e) else none
    | _ => none

theorem trod_plain_int {H : Type} {enc : TypeId × Value → H} {P : Program} {w : World} {base : Nat} {spare : Nat → Bool} {held : Bool} {n : Nat} {t : TypeId} {cs : List Value} {k : IntKind} {x : DataW H × List MemPlace}
    (ht : P.underlying t = some (.int k)) (h : DataW.trod enc P w base spare held n t cs = some x) : ∃ z, cs = [.int k z] ∧ (Lit.int k z).wf = true := by
  cases n with
  | zero => simp [DataW.trod] at h
  | succ n =>
    simp only [DataW.trod, ht] at h
    split at h
    all_goals first
      | (rename_i e1 e2; cases e1; done)
      | (rename_i e1; cases e1; done)
      | skip
    all_goals first
      | (simp at h; done)
      | skip
    rename_i k1 k2 m e1
    simp at e1
    subst e1
    split at h
    · rename_i hh
      obtain ⟨rfl, hw⟩ := hh
      exact ⟨_, rfl, hw⟩
    · simp at h

theorem trod_kind {H : Type} {enc : TypeId × Value → H} {P : Program} {w : World} {base : Nat} {spare : Nat → Bool} {held : Bool} :
    ∀ (n m : Nat) (t : TypeId) (cs : List Value) (x : DataW H × List MemPlace) (i : Nat) (k : IntKind), kindAt P n t i = some k → DataW.trod enc P w base spare held m t cs = some x → ∃ z, cs[i]? = some (.int k z) ∧ (Lit.int k z).wf = true := by
  intro n
  induction n with
  | zero => intro m t cs x i k h; simp [kindAt] at h
  | succ n ih =>
    intro m t cs x i k hk ht
    unfold kindAt at hk
    split at hk
    · rename_i q hq
      split at hk
      · rename_i hi
        injection hk with hk
        subst hi hk
        obtain ⟨z, rfl, hz⟩ := trod_plain_int hq ht
        exact ⟨z, rfl, hz⟩
      · cases hk
    · rename_i fs hfs
      obtain ⟨xs, n', _, _, hlen, hxl, hf⟩ := DataW.trod_struct hfs ht
      obtain ⟨f, hf1, hf2⟩ := List.exists_of_findSome?_eq_some hk
      split at hf2
      · rename_i hin
        obtain ⟨j, hj, hje⟩ := List.getElem_of_mem hf1
        have hj' : fs[j]? = some f := by
          rw [← Array.getElem?_toList]; rw [List.getElem?_eq_getElem hj, hje]
        have h1 := hf j f hj'
        have hjl : j < xs.length := by rw [hxl]; exact (Array.getElem?_eq_some_iff.1 hj').1
        rw [List.getElem?_eq_getElem hjl] at h1
        obtain ⟨z, hz, hw⟩ := ih _ _ _ _ _ _ hf2 h1
        refine ⟨z, ?_, hw⟩
        rw [List.getElem?_take] at hz
        split at hz
        · rw [List.getElem?_drop] at hz
          rwa [show f.offset + (i - f.offset) = i from by omega] at hz
        · cases hz
      · cases hf2
    · rename_i c e hce
      split at hk
      · rename_i hin
        obtain ⟨xs, n', _, _, hlen, hxl, hf⟩ := DataW.trod_array hce ht
        have h1 := hf (i / P.cellsOf e) hin.1
        rw [List.getElem?_eq_getElem (by omega)] at h1
        obtain ⟨z, hz, hw⟩ := ih _ _ _ _ _ _ hk h1
        refine ⟨z, ?_, hw⟩
        rw [List.getElem?_take] at hz
        split at hz
        · rw [List.getElem?_drop] at hz
          rwa [show i / P.cellsOf e * P.cellsOf e + i % P.cellsOf e = i from by rw [Nat.mul_comm]; exact Nat.div_add_mod i _] at hz
        · cases hz
      · cases hk
    · cases hk

theorem wf_bounds {k : IntKind} {z : Int} (h : (Lit.int k z).wf = true) : k.min ≤ z ∧ z ≤ k.max := by
  simpa [Lit.wf] using h

theorem bd_i8 {z : Int} (h : IntKind.i8.min ≤ z ∧ z ≤ IntKind.i8.max) : -128 ≤ z ∧ z ≤ 127 := h
theorem bd_u8 {z : Int} (h : IntKind.u8.min ≤ z ∧ z ≤ IntKind.u8.max) : 0 ≤ z ∧ z ≤ 255 := h
theorem bd_u16 {z : Int} (h : IntKind.u16.min ≤ z ∧ z ≤ IntKind.u16.max) : 0 ≤ z ∧ z ≤ 65535 := h
theorem bd_u32 {z : Int} (h : IntKind.u32.min ≤ z ∧ z ≤ IntKind.u32.max) : 0 ≤ z ∧ z ≤ 4294967295 := h
theorem bd_i64 {z : Int} (h : IntKind.i64.min ≤ z ∧ z ≤ IntKind.i64.max) : -9223372036854775808 ≤ z ∧ z ≤ 9223372036854775807 := h
theorem bd_u64 {z : Int} (h : IntKind.u64.min ≤ z ∧ z ≤ IntKind.u64.max) : 0 ≤ z ∧ z ≤ 18446744073709551615 := h
theorem cell_lt0 {w : World} {b o : Nat} {v : Value} (h : w.cell? ⟨b, o, none⟩ = some v) : b < w.heap.size := by
  cases Nat.lt_or_ge b w.heap.size with
  | inl hl => exact hl
  | inr hg =>
    have : w.heap[b]? = none := Array.getElem?_eq_none (by omega)
    simp [World.cell?, this] at h

/-- A slice of elements of c cells each that came in; kinds: what kind the j-th cell of an element is of. -/
def IsRows (kinds : List IntKind) (w : World) (v : Value) : Prop :=
  ∃ a len cap, v = .slice a len cap ∧ len ≤ cap ∧ cap ≤ maxLen ∧ (0 < len → ∃ b o, ∃ z : Nat → Nat → Int, a = some ⟨b, o, none⟩ ∧ b < w.heap.size ∧
    ∀ i, i < len → ∀ j k, kinds[j]? = some k → w.cell? ⟨b, o + (i * kinds.length + j), none⟩ = some (.int k (z i j)) ∧ k.min ≤ z i j ∧ z i j ≤ k.max)

theorem open_rows_sl {H : Type} {enc : TypeId × Value → H} {P : Program} {W : World} {t e : TypeId} {a : Option Addr} {len cap : Nat} {d : DataW H} {p : List MemPlace} (kinds : List IntKind) (ht : P.underlying t = some (.slice e)) (hc : P.cellsOf e = kinds.length) (hpos : 0 < kinds.length)
    (hk : (List.range kinds.length).all (fun j => kindAt P 8 e j == kinds[j]?) = true)
    (h : DataW.Trod enc P W 0 (fun _ => true) true t (.slice a len cap) d p) : IsRows kinds W (.slice a len cap) := by
  obtain ⟨fuel, hf⟩ := h
  rcases Deep.open_slice ht hf with ⟨hcs, _⟩ | ⟨x, l, c, m, n, D, Pl, hcs, _, hl, hm, hmm, _, hx⟩
  · simp [Value.cells] at hcs
    obtain ⟨rfl, rfl, rfl⟩ := hcs
    exact ⟨none, 0, 0, rfl, Nat.le_refl _, Nat.zero_le _, fun h => absurd h (by omega)⟩
  · simp [Value.cells] at hcs
    obtain ⟨rfl, rfl, rfl⟩ := hcs
    refine ⟨_, _, _, rfl, hl, hm, fun h0 => ?_⟩
    have hmc : m = cap := by simpa using hmm
    have each : ∀ i, i < len → ∀ j k, kinds[j]? = some k → ∃ z, W.cell? (x.add (i * kinds.length + j)) = some (.int k z) ∧ k.min ≤ z ∧ z ≤ k.max := fun i hi j k hjk => by
      obtain ⟨cs', hcs', htr⟩ := hx i (by omega)
      have hj : j < kinds.length := (List.getElem?_eq_some_iff.1 hjk).1
      have hkj : kindAt P 8 e j = some k := by
        have := List.all_eq_true.1 hk j (List.mem_range.2 hj)
        rw [hjk] at this
        exact eq_of_beq this
      obtain ⟨z, hz, hw⟩ := trod_kind 8 _ e cs' _ j k hkj htr
      obtain ⟨_, hcl, hat⟩ := World.cells?_some hcs'
      refine ⟨z, ?_, wf_bounds hw⟩
      have h1 := hat j (by rw [hc]; exact hj)
      rw [hz, hc] at h1
      rw [← Go.Deep.add_add]
      exact h1
    obtain ⟨b, o, s⟩ := x
    obtain ⟨k0, hk0⟩ : ∃ k, kinds[0]? = some k := ⟨kinds[0], List.getElem?_eq_getElem hpos⟩
    obtain ⟨z0, hz0, _⟩ := each 0 h0 0 k0 hk0
    have hs : s = none := by simpa [Addr.add] using World.cell?_spot hz0
    subst hs
    rw [Go.WideShapes.add_plain] at hz0
    have each2 : ∀ i, i < len → ∀ j k, kinds[j]? = some k → ∃ z, W.cell? ⟨b, o + (i * kinds.length + j), none⟩ = some (.int k z) ∧ k.min ≤ z ∧ z ≤ k.max := fun i hi j k hjk => by
      have := each i hi j k hjk
      rwa [Go.WideShapes.add_plain] at this
    refine ⟨b, o, fun i j => if hij : i < len ∧ j < kinds.length then (each2 i hij.1 j _ (List.getElem?_eq_getElem hij.2)).choose else 0, rfl, cell_lt0 hz0, fun i hi j k hjk => ?_⟩
    have hj : j < kinds.length := (List.getElem?_eq_some_iff.1 hjk).1
    have hkk : kinds[j] = k := by rw [List.getElem?_eq_getElem hj] at hjk; injection hjk
    subst hkk
    simp only [hi, hj, and_self, dif_pos]
    exact (each2 i hi j _ hjk).choose_spec

theorem open_rows {H : Type} {enc : TypeId × Value → H} {P : Program} {W : World} {r : Reach} {b0 : Nat} {t e : TypeId} {v : Value} {d : DataW H} {p : List MemPlace} (kinds : List IntKind) (ht : P.underlying t = some (.slice e)) (hc : P.cellsOf e = kinds.length) (hpos : 0 < kinds.length)
    (hk : (List.range kinds.length).all (fun j => kindAt P 8 e j == kinds[j]?) = true)
    (hv : Value.okWide P W r b0 t v) (h : DataW.Trod enc P W 0 (fun _ => true) true t v d p) : IsRows kinds W v := by
  obtain ⟨a, len, cap, rfl⟩ := okWide_slice ht hv
  exact open_rows_sl kinds ht hc hpos hk h

/-- A plain value of several cells that came in. -/
def IsPlain (kinds : List IntKind) (v : Value) : Prop :=
  ∃ z : Nat → Int, v = .agg ((List.range kinds.length).map fun j => Value.int (kinds.getD j .i64) (z j)).toArray ∧ ∀ j k, kinds[j]? = some k → k.min ≤ z j ∧ z j ≤ k.max

theorem open_plain {H : Type} {enc : TypeId × Value → H} {P : Program} {W : World} {t : TypeId} {cs : Array Value} {d : DataW H} {p : List MemPlace} (kinds : List IntKind) (hc : cs.size = kinds.length)
    (hk : (List.range kinds.length).all (fun j => kindAt P 8 t j == kinds[j]?) = true)
    (h : DataW.Trod enc P W 0 (fun _ => true) true t (.agg cs) d p) : IsPlain kinds (.agg cs) := by
  obtain ⟨fuel, hf⟩ := h
  have each : ∀ (j : Nat) (k : IntKind), kinds[j]? = some k → ∃ z, cs[j]? = some (.int k z) ∧ k.min ≤ z ∧ z ≤ k.max := fun j k hjk => by
    have hj : j < kinds.length := (List.getElem?_eq_some_iff.1 hjk).1
    have hkj : kindAt P 8 t j = some k := by
      have := List.all_eq_true.1 hk j (List.mem_range.2 hj)
      rw [hjk] at this
      exact eq_of_beq this
    obtain ⟨z, hz, hw⟩ := trod_kind 8 _ t _ _ j k hkj hf
    refine ⟨z, ?_, wf_bounds hw⟩
    rw [← Array.getElem?_toList]
    simpa [Value.cells] using hz
  obtain ⟨z, hz⟩ : ∃ z : Nat → Int, ∀ (j : Nat) (k : IntKind), kinds[j]? = some k → cs[j]? = some (.int k (z j)) ∧ k.min ≤ z j ∧ z j ≤ k.max := by
    refine ⟨fun j => if hj : j < kinds.length then (each j _ (List.getElem?_eq_getElem hj)).choose else 0, fun j k hjk => ?_⟩
    have hj : j < kinds.length := (List.getElem?_eq_some_iff.1 hjk).1
    have hkk : kinds[j] = k := by rw [List.getElem?_eq_getElem hj] at hjk; injection hjk
    subst hkk
    simp only [hj, dif_pos]
    exact (each j _ hjk).choose_spec
  refine ⟨z, ?_, fun j k hjk => (hz j k hjk).2⟩
  congr 1
  apply Array.ext_getElem?
  intro j
  by_cases hj : j < kinds.length
  · rw [(hz j _ (List.getElem?_eq_getElem hj)).1, List.getElem?_toArray, List.getElem?_map, List.getElem?_range hj]
    simp [hj]
  · rw [Array.getElem?_eq_none (by omega), List.getElem?_toArray, List.getElem?_eq_none (by simp; omega)]
end Go.Proofs.Ytembppihfcclcaa
