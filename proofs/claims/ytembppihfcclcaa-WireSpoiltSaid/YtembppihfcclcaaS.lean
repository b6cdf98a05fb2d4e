/-
  Entry: rows of entries that came in, and of the call's own.
-/
import Derived.Test.YtembppihfcclcaaR
namespace Go.Proofs.Ytembppihfcclcaa
set_option linter.unusedVariables false
open Go.ChangeShapes Go.WideShapes Go.ChangeAt Go.RowKit

theorem ent_of_cs {H : Type} {enc : TypeId × Value → H} {W : World} {cs : List Value} {fuel : Nat} {x : DataW H × List MemPlace} (hf : DataW.trod enc Try.prog W 0 (fun _ => true) true fuel 37 cs = some x) (hsz26 : cs.length = 26) : ∃ fr sv n E I, cs = entL fr sv I ∧ EvsV W sv n E ∧ EntB fr n E I := by
  have hk : ∀ k, k < 26 → k ≠ 1 → kindAt Try.prog 8 37 k = kEnt k := by
    have h0 : (List.range 26).all (fun k => k == 1 || kindAt Try.prog 8 37 k == kEnt k) = true := by kernel_rfl
    intro k hk h1
    have := List.all_eq_true.1 h0 k (List.mem_range.2 hk)
    rw [Bool.or_eq_true] at this
    rcases this with h | h
    · exact absurd (eq_of_beq h) h1
    · exact eq_of_beq h
  have each : ∀ k kd, k < 26 → k ≠ 1 → kEnt k = some kd → ∃ z, cs[k]? = some (.int kd z) ∧ kd.min ≤ z ∧ z ≤ kd.max := fun k kd hk26 h1 hkd => by
    obtain ⟨z, hz, hw⟩ := trod_kind 8 _ 37 _ _ k kd ((hk k hk26 h1).trans hkd) hf
    exact ⟨z, hz, wf_bounds hw⟩
  obtain ⟨xs, n', _, _, hlen, hxl, hfs⟩ := DataW.trod_struct Try.underlying37 hf
  have hf1 := hfs 1 _ rfl
  have hxs : 1 < xs.length := by rw [hxl]; decide
  rw [List.getElem?_eq_getElem hxs] at hf1
  obtain ⟨sv, hsv, hrows⟩ := open_rows_cs k4 Try.underlying31 (by kernel_rfl) (by decide) (by kernel_rfl) hf1
  have hsv2 : List.take (Try.prog.cellsOf 31) (List.drop 1 cs) = [sv] := hsv
  rw [show Try.prog.cellsOf 31 = 1 by kernel_rfl] at hsv2
  have h1 : cs[1]? = some sv := by
    have := congrArg (fun l => l[0]?) hsv2
    simpa [List.getElem?_take, List.getElem?_drop] using this
  clear hsv hsv2 hf1 hfs hxs hxl hlen hf hk
  have hex : ∀ k, ∃ z : Int, ∀ kd, k < 26 → k ≠ 1 → kEnt k = some kd → cs[k]? = some (.int kd z) ∧ kd.min ≤ z ∧ z ≤ kd.max := fun k => by
    by_cases hk : k < 26 ∧ k ≠ 1
    · cases hkd : kEnt k with
      | none => exact ⟨0, fun kd _ _ h => by cases h⟩
      | some kd =>
        obtain ⟨z, hz⟩ := each k kd hk.1 hk.2 hkd
        exact ⟨z, fun kd' _ _ h => by injection h with h; subst h; exact hz⟩
    · exact ⟨0, fun kd a b => absurd ⟨a, b⟩ hk⟩
  obtain ⟨Z, hZ⟩ := Classical.axiomOfChoice hex
  have kE : ∀ k, k < 24 → kEnt (k + 2) = some (if k % 3 = 2 then .u8 else .i8) := fun k hk => by
    unfold kEnt
    rw [if_neg (by omega), if_neg (by omega), if_pos (by omega)]
    by_cases h : k % 3 = 2
    · rw [if_pos h, if_pos (by omega)]
    · rw [if_neg h, if_neg (by omega)]
  obtain ⟨n, E, hE, hb⟩ := rows_evs hrows
  refine ⟨Z 0, sv, n, E, fun k => Z (k + 2), ?_, hE, ⟨?_, hb, ?_, ?_⟩⟩
  · apply List.ext_getElem?
    intro k
    by_cases hk : k < 26
    · rw [entL_get _ _ _ _ hk]
      unfold entF inpV
      by_cases h0 : k = 0
      · subst h0; rw [if_pos rfl]; exact (hZ 0 .i64 (by omega) (by omega) rfl).1
      · by_cases h1' : k = 1
        · subst h1'; rw [if_neg (by omega), if_pos rfl]; exact h1
        · rw [if_neg h0, if_neg h1']
          have := (hZ k _ hk h1' (by have := kE (k - 2) (by omega); rwa [show k - 2 + 2 = k by omega] at this)).1
          rw [this]
          show _ = some (Value.int _ (Z (k - 2 + 2)))
          rw [show k - 2 + 2 = k by omega]
    · rw [List.getElem?_eq_none (by omega), List.getElem?_eq_none (by rw [entL_len]; omega)]
  · exact bd_i64 (hZ 0 .i64 (by omega) (by omega) rfl).2
  · intro k hk h3
    have := (hZ (k + 2) _ (by omega) (by omega) (kE k hk)).2
    rw [if_neg h3] at this
    exact bd_i8 this
  · intro k hk h3
    have := (hZ (k + 2) _ (by omega) (by omega) (kE k hk)).2
    rw [if_pos h3] at this
    exact bd_u8 this

theorem choose_lt' {α : Type} [Inhabited α] {n : Nat} {p : Nat → α → Prop} (h : ∀ i, i < n → ∃ a, p i a) : ∃ f : Nat → α, ∀ i, i < n → p i (f i) := by
  refine ⟨fun i => if hi : i < n then (h i hi).choose else default, fun i hi => ?_⟩
  simp only [hi, dif_pos]
  exact (h i hi).choose_spec
instance : Inhabited Ent := ⟨⟨0, 0, fun _ _ => 0, fun _ => 0⟩⟩
def IsEnts (w : World) (v : Value) : Prop := ∃ n D, EntsV w v n D ∧ (∀ i, i < n → EntB (D i).fr (D i).n (D i).E (D i).I) ∧ ∀ m c, v = .slice none m c → c = 0
set_option maxRecDepth 100000 in
theorem open_ents {H : Type} {enc : TypeId × Value → H} {W : World} {b0 : Nat} {x : Value} {d : DataW H} {p : List MemPlace} (hv : Value.okWide Try.prog W .any b0 27 x) (h : DataW.Trod enc Try.prog W 0 (fun _ => true) true 27 x d p) : IsEnts W x := by
  obtain ⟨a, len, cap, rfl⟩ := okWide_slice Try.underlying27 hv
  obtain ⟨fuel, hf⟩ := h
  rcases Deep.open_slice Try.underlying27 hf with ⟨hcs, _⟩ | ⟨x, l, c, m, n, D, Pl, hcs, _, hl, hm, hmm, _, hx⟩
  · simp [Value.cells] at hcs
    obtain ⟨rfl, rfl, rfl⟩ := hcs
    exact ⟨0, fun _ => default, ⟨none, 0, rfl, Nat.le_refl _, Nat.zero_le _, fun h => absurd h (by omega)⟩, fun i hi => absurd hi (by omega), fun m c h => by injection h with _ _ h; exact h.symm⟩
  · simp [Value.cells] at hcs
    obtain ⟨rfl, rfl, rfl⟩ := hcs
    have hmc : m = cap := by simpa using hmm
    have h26 : Try.prog.cellsOf 37 = 26 := by kernel_rfl
    have each : ∀ i, i < len → ∃ y : Ent, (∃ sv, (∀ k, k < 26 → W.cell? (x.add (i * 26 + k)) = some (entF y.fr sv y.I k)) ∧ EvsV W sv y.n y.E) ∧ EntB y.fr y.n y.E y.I := fun i hi => by
      obtain ⟨cs', hcs', htr⟩ := hx i (by omega)
      obtain ⟨_, hcl, hat⟩ := World.cells?_some hcs'
      rw [h26] at hcl hat
      obtain ⟨fr, sv, nn, E, I, rfl, hE, hB⟩ := ent_of_cs htr hcl
      refine ⟨⟨fr, nn, E, I⟩, ⟨sv, fun k hk => ?_, hE⟩, hB⟩
      have h1 := hat k hk
      rw [entL_get _ _ _ _ hk] at h1
      rw [← Go.Deep.add_add]
      exact h1
    by_cases h0 : 0 < len
    · obtain ⟨D', hD'⟩ := choose_lt' each
      obtain ⟨b, o, s⟩ := x
      obtain ⟨⟨sv0, hc0, -⟩, -⟩ := hD' 0 h0
      have hz0 := hc0 0 (by omega)
      have hs : s = none := by simpa [Addr.add] using World.cell?_spot hz0
      subst hs
      rw [Go.WideShapes.add_plain] at hz0
      refine ⟨len, D', ⟨_, cap, rfl, hl, hm, fun _ => ⟨b, o, rfl, block_of_cell hz0, fun i hi => ?_⟩⟩, fun i hi => (hD' i hi).2, fun m c h => by injection h with h; cases h⟩
      obtain ⟨⟨sv, hc, hE⟩, -⟩ := hD' i hi
      refine ⟨sv, ⟨fun k hk => ?_⟩, hE⟩
      have := hc k hk
      rw [Go.WideShapes.add_plain] at this
      rw [Nat.add_assoc]
      exact this
    · exact ⟨len, fun _ => default, ⟨_, cap, rfl, hl, hm, fun h => absurd h h0⟩, fun i hi => absurd hi (by omega), fun m c h => by injection h with h; cases h⟩
theorem sameB_symm (x y : Ent) : sameD x y = sameD y x := by
  unfold sameD sameB
  have e1 : (x.fr == y.fr) = (y.fr == x.fr) := by rw [Bool.eq_iff_iff, beq_iff_eq, beq_iff_eq]; exact ⟨Eq.symm, Eq.symm⟩
  have e2 : inpsEq x.I y.I = inpsEq y.I x.I := by rw [Bool.eq_iff_iff, inpsEq_iff, inpsEq_iff]; exact ⟨fun h k hk => (h k hk).symm, fun h k hk => (h k hk).symm⟩
  rw [e1, e2]
  by_cases hn : x.n = y.n
  · have e3 : evsEq x.E y.E x.n = evsEq y.E x.E y.n := by
      rw [Bool.eq_iff_iff, evsEq_iff, evsEq_iff, hn]
      exact ⟨fun h i hi => by obtain ⟨a, b, c, d⟩ := h i hi; exact ⟨a.symm, b.symm, c.symm, d.symm⟩, fun h i hi => by obtain ⟨a, b, c, d⟩ := h i hi; exact ⟨a.symm, b.symm, c.symm, d.symm⟩⟩
    rw [e3, decide_eq_true hn, decide_eq_true hn.symm]
  · rw [decide_eq_false hn, decide_eq_false (fun h => hn h.symm)]
    rfl
theorem sameD_refl (x : Ent) : sameD x x = true := by
  unfold sameD sameB
  rw [(inpsEq_iff _ _).2 (fun _ _ => rfl), (evsEq_iff _ _ _).2 (fun _ _ => ⟨rfl, rfl, rfl, rfl⟩), decide_eq_true rfl]
  simp
theorem entsEq_of (D D' : Nat → Ent) : ∀ n, (∀ i, i < n → D i = D' i) → entsEq D D' n = true
  | 0, _ => rfl
  | n + 1, h => by
    unfold entsEq
    rw [entsEq_of D D' n (fun i hi => h i (by omega)), h n (by omega), sameD_refl]
    rfl
end Go.Proofs.Ytembppihfcclcaa
