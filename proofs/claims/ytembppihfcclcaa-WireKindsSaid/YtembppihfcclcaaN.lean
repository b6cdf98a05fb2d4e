/-
  Entry: entries that came in.
-/
import Derived.Test.YtembppihfcclcaaL
import Derived.Test.YtembppihfcclcaaN0
namespace Go.Proofs.Ytembppihfcclcaa
set_option linter.unusedVariables false
open Go.ChangeShapes Go.WideShapes Go.ChangeAt Go.RowKit

structure EntB (fr : Int) (n : Nat) (E : Nat → Nat → Int) (I : Nat → Int) : Prop where
  fr : -9223372036854775808 ≤ fr ∧ fr ≤ 9223372036854775807
  ev : ∀ i, i < n → ∀ j, j < 4 → -9223372036854775808 ≤ E i j ∧ E i j ≤ 9223372036854775807
  xy : ∀ k, k < 24 → k % 3 ≠ 2 → -128 ≤ I k ∧ I k ≤ 127
  b : ∀ k, k < 24 → k % 3 = 2 → 0 ≤ I k ∧ I k ≤ 255
def IsEnt (w : World) (v : Value) : Prop := ∃ fr sv n E I, v = .agg (entL fr sv I).toArray ∧ EvsV w sv n E ∧ EntB fr n E I
theorem open_rows_cs {H : Type} {enc : TypeId × Value → H} {P : Program} {W : World} {t e : TypeId} {fuel : Nat} {cs : List Value} {x : DataW H × List MemPlace} (kinds : List IntKind) (ht : P.underlying t = some (.slice e)) (hc : P.cellsOf e = kinds.length) (hpos : 0 < kinds.length)
    (hk : (List.range kinds.length).all (fun j => kindAt P 8 e j == kinds[j]?) = true)
    (hf : DataW.trod enc P W 0 (fun _ => true) true fuel t cs = some x) : ∃ v, cs = [v] ∧ IsRows kinds W v := by
  have hf' := hf
  obtain ⟨d, p⟩ := x
  rcases Deep.open_slice ht hf with ⟨hcs, _⟩ | ⟨x, l, c, m, n, D, Pl, hcs, _⟩
  · exact ⟨_, hcs, none, 0, 0, rfl, Nat.le_refl _, Nat.zero_le _, fun h => absurd h (by omega)⟩
  · refine ⟨_, hcs, ?_⟩
    subst hcs
    exact open_rows_sl kinds ht hc hpos hk ⟨fuel, hf'⟩
def k4 : List IntKind := [.i64, .i64, .i64, .i64]
theorem rows_evs {w : World} {v : Value} (h : IsRows k4 w v) : ∃ n E, EvsV w v n E ∧ ∀ i, i < n → ∀ j, j < 4 → -9223372036854775808 ≤ E i j ∧ E i j ≤ 9223372036854775807 := by
  obtain ⟨a, n, cap, rfl, h1, h2, h3⟩ := h
  by_cases hn : 0 < n
  · obtain ⟨b, o, z, rfl, hb, hc⟩ := h3 hn
    have hk : ∀ j, j < 4 → k4[j]? = some .i64 := fun j hj => by rcases (by omega : j = 0 ∨ j = 1 ∨ j = 2 ∨ j = 3) with rfl | rfl | rfl | rfl <;> rfl
    refine ⟨n, z, ⟨_, cap, rfl, h1, h2, fun _ => ⟨b, o, rfl, hb, ⟨fun i hi => ?_, fun i hi => ?_, fun i hi => ?_, fun i hi => ?_⟩⟩⟩, fun i hi j hj => (hc i hi j .i64 (hk j hj)).2⟩
    · exact (hc i hi 0 .i64 rfl).1
    · exact (hc i hi 1 .i64 rfl).1
    · exact (hc i hi 2 .i64 rfl).1
    · exact (hc i hi 3 .i64 rfl).1
  · exact ⟨n, fun _ _ => 0, ⟨_, cap, rfl, h1, h2, fun h => absurd h hn⟩, fun i hi => absurd hi (by omega)⟩
def kEnt (k : Nat) : Option IntKind := if k = 0 then some .i64 else if k = 1 then none else if k < 26 then (if k % 3 = 1 then some .u8 else some .i8) else none
set_option maxRecDepth 100000 in
theorem open_ent {H : Type} {enc : TypeId × Value → H} {W : World} {b0 : Nat} {x : Value} {d : DataW H} {p : List MemPlace} (hv : Value.okWide Try.prog W .any b0 37 x) (h : DataW.Trod enc Try.prog W 0 (fun _ => true) true 37 x d p) : IsEnt W x := by
  obtain ⟨cs, rfl, hsz⟩ := okWide_struct Try.underlying37 hv
  have hsz26 : cs.size = 26 := hsz.trans (by kernel_rfl)
  obtain ⟨fuel, hf⟩ := h
  have hcells : (Value.agg cs).cells.toList = cs.toList := rfl
  have hk : ∀ k, k < 26 → k ≠ 1 → kindAt Try.prog 8 37 k = kEnt k := by
    have h0 : (List.range 26).all (fun k => k == 1 || kindAt Try.prog 8 37 k == kEnt k) = true := by kernel_rfl
    intro k hk h1
    have := List.all_eq_true.1 h0 k (List.mem_range.2 hk)
    rw [Bool.or_eq_true] at this
    rcases this with h | h
    · exact absurd (eq_of_beq h) h1
    · exact eq_of_beq h
  have each : ∀ k kd, k < 26 → k ≠ 1 → kEnt k = some kd → ∃ z, cs[k]? = some (.int kd z) ∧ kd.min ≤ z ∧ z ≤ kd.max := fun k kd hk26 h1 hkd => by
    obtain ⟨z, hz, hw⟩ := trod_kind 8 _ 37 _ _ k kd ((hk k hk26 h1).trans hkd) hf
    refine ⟨z, ?_, wf_bounds hw⟩
    rw [← Array.getElem?_toList]
    exact hz
  obtain ⟨xs, n', _, _, hlen, hxl, hfs⟩ := DataW.trod_struct Try.underlying37 hf
  have hf1 := hfs 1 _ rfl
  have hxs : 1 < xs.length := by rw [hxl]; decide
  rw [List.getElem?_eq_getElem hxs] at hf1
  obtain ⟨sv, hsv, hrows⟩ := open_rows_cs k4 Try.underlying31 (by kernel_rfl) (by decide) (by kernel_rfl) hf1
  have hsv2 : List.take (Try.prog.cellsOf 31) (List.drop 1 cs.toList) = [sv] := hsv
  rw [show Try.prog.cellsOf 31 = 1 by kernel_rfl] at hsv2
  have h1 : cs[1]? = some sv := by
    have := congrArg (fun l => l[0]?) hsv2
    rw [← Array.getElem?_toList]
    simpa [List.getElem?_take, List.getElem?_drop] using this
  clear hsv hsv2 hf1 hfs hxs hxl hlen hf hcells hk
  have hex : ∀ k, ∃ z : Int, ∀ kd, k < 26 → k ≠ 1 → kEnt k = some kd → cs[k]? = some (.int kd z) ∧ kd.min ≤ z ∧ z ≤ kd.max := fun k => by
    by_cases hk : k < 26 ∧ k ≠ 1
    · cases hkd : kEnt k with
      | none => exact ⟨0, fun kd _ _ h => by cases h⟩
      | some kd =>
        obtain ⟨z, hz⟩ := each k kd hk.1 hk.2 hkd
        exact ⟨z, fun kd' _ _ h => by injection h with h; subst h; exact hz⟩
    · exact ⟨0, fun kd a b => absurd ⟨a, b⟩ hk⟩
  obtain ⟨Z, hZ⟩ := Classical.axiomOfChoice hex
  have kE : ∀ k, k < 24 → kEnt (k + 2) = some (if k % 3 = 2 then .u8 else .i8) := fun k hk => by
    unfold kEnt
    rw [if_neg (by omega), if_neg (by omega), if_pos (by omega)]
    by_cases h : k % 3 = 2
    · rw [if_pos h, if_pos (by omega)]
    · rw [if_neg h, if_neg (by omega)]
  obtain ⟨n, E, hE, hb⟩ := rows_evs hrows
  refine ⟨Z 0, sv, n, E, fun k => Z (k + 2), ?_, hE, ⟨?_, hb, ?_, ?_⟩⟩
  · congr 1
    apply Array.ext_getElem?
    intro k
    have e : (entL (Z 0) sv fun k => Z (k + 2)).toArray[k]? = (entL (Z 0) sv fun k => Z (k + 2))[k]? := List.getElem?_toArray
    rw [e]
    by_cases hk : k < 26
    · rw [entL_get _ _ _ _ hk]
      unfold entF inpV
      by_cases h0 : k = 0
      · subst h0; rw [if_pos rfl]; exact (hZ 0 .i64 (by omega) (by omega) rfl).1
      · by_cases h1' : k = 1
        · subst h1'; rw [if_neg (by omega), if_pos rfl]; exact h1
        · rw [if_neg h0, if_neg h1']
          have := (hZ k _ hk h1' (by have := kE (k - 2) (by omega); rwa [show k - 2 + 2 = k by omega] at this)).1
          rw [this]
          show _ = some (Value.int _ (Z (k - 2 + 2)))
          rw [show k - 2 + 2 = k by omega]
    · rw [Array.getElem?_eq_none (by omega), List.getElem?_eq_none (by rw [entL_len]; omega)]
  · exact bd_i64 (hZ 0 .i64 (by omega) (by omega) rfl).2
  · intro k hk h3
    have := (hZ (k + 2) _ (by omega) (by omega) (kE k hk)).2
    rw [if_neg h3] at this
    exact bd_i8 this
  · intro k hk h3
    have := (hZ (k + 2) _ (by omega) (by omega) (kE k hk)).2
    rw [if_pos h3] at this
    exact bd_u8 this
def IsEv (w : World) (v : Value) : Prop := ∃ k s g p : Int, v = .agg #[.int .i64 k, .int .i64 s, .int .i64 g, .int .i64 p]
set_option maxRecDepth 100000 in
theorem open_ev {H : Type} {enc : TypeId × Value → H} {W : World} {b0 : Nat} {x : Value} {d : DataW H} {p : List MemPlace} (hv : Value.okWide Try.prog W .any b0 43 x) (h : DataW.Trod enc Try.prog W 0 (fun _ => true) true 43 x d p) : IsEv W x := by
  obtain ⟨cs, rfl, hsz⟩ := okWide_struct Try.underlying43 hv
  obtain ⟨z, hz, -⟩ := open_plain [.i64, .i64, .i64, .i64] (hsz.trans (by kernel_rfl)) (by kernel_rfl) h
  exact ⟨z 0, z 1, z 2, z 3, hz⟩
end Go.Proofs.Ytembppihfcclcaa
