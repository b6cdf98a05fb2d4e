/-
  Entry: rows of entries that came in, and of the call's own. Wire: messages that came in. Wire: Few.
-/
import Derived.Test.YtembppihfcclcaaR
import Derived.Test.YtembppihfcclcaaMU
namespace Go.Proofs.Ytembppihfcclcaa
set_option linter.unusedVariables false
open Go.ChangeShapes Go.WideShapes Go.ChangeAt Go.RowKit

theorem ent_of_cs {H : Type} {enc : TypeId × Value → H} {W : World} {cs : List Value} {fuel : Nat} {x : DataW H × List MemPlace} (hf : DataW.trod enc Try.prog W 0 (fun _ => true) true fuel 37 cs = some x) (hsz26 : cs.length = 26) : ∃ fr sv n E I, cs = entL fr sv I ∧ EvsV W sv n E ∧ EntB fr n E I := by
  have hk : ∀ k, k < 26 → k ≠ 1 → kindAt Try.prog 8 37 k = kEnt k := by
    have h0 : (List.range 26).all (fun k => k == 1 || kindAt Try.prog 8 37 k == kEnt k) = true := by kernel_rfl
    intro k hk h1
    have := List.all_eq_true.1 h0 k (List.mem_range.2 hk)
    rw [Bool.or_eq_true] at this
    rcases this with h | h
    · exact absurd (eq_of_beq h) h1
    · exact eq_of_beq h
  have each : ∀ k kd, k < 26 → k ≠ 1 → kEnt k = some kd → ∃ z, cs[k]? = some (.int kd z) ∧ kd.min ≤ z ∧ z ≤ kd.max := fun k kd hk26 h1 hkd => by
    obtain ⟨z, hz, hw⟩ := trod_kind 8 _ 37 _ _ k kd ((hk k hk26 h1).trans hkd) hf
    exact ⟨z, hz, wf_bounds hw⟩
  obtain ⟨xs, n', _, _, hlen, hxl, hfs⟩ := DataW.trod_struct Try.underlying37 hf
  have hf1 := hfs 1 _ rfl
  have hxs : 1 < xs.length := by rw [hxl]; decide
  rw [List.getElem?_eq_getElem hxs] at hf1
  obtain ⟨sv, hsv, hrows⟩ := open_rows_cs k4 Try.underlying31 (by kernel_rfl) (by decide) (by kernel_rfl) hf1
  have hsv2 : List.take (Try.prog.cellsOf 31) (List.drop 1 cs) = [sv] := hsv
  rw [show Try.prog.cellsOf 31 = 1 by kernel_rfl] at hsv2
  have h1 : cs[1]? = some sv := by
    have := congrArg (fun l => l[0]?) hsv2
    simpa [List.getElem?_take, List.getElem?_drop] using this
  clear hsv hsv2 hf1 hfs hxs hxl hlen hf hk
  have hex : ∀ k, ∃ z : Int, ∀ kd, k < 26 → k ≠ 1 → kEnt k = some kd → cs[k]? = some (.int kd z) ∧ kd.min ≤ z ∧ z ≤ kd.max := fun k => by
    by_cases hk : k < 26 ∧ k ≠ 1
    · cases hkd : kEnt k with
      | none => exact ⟨0, fun kd _ _ h => by cases h⟩
      | some kd =>
        obtain ⟨z, hz⟩ := each k kd hk.1 hk.2 hkd
        exact ⟨z, fun kd' _ _ h => by injection h with h; subst h; exact hz⟩
    · exact ⟨0, fun kd a b => absurd ⟨a, b⟩ hk⟩
  obtain ⟨Z, hZ⟩ := Classical.axiomOfChoice hex
  have kE : ∀ k, k < 24 → kEnt (k + 2) = some (if k % 3 = 2 then .u8 else .i8) := fun k hk => by
    unfold kEnt
    rw [if_neg (by omega), if_neg (by omega), if_pos (by omega)]
    by_cases h : k % 3 = 2
    · rw [if_pos h, if_pos (by omega)]
    · rw [if_neg h, if_neg (by omega)]
  obtain ⟨n, E, hE, hb⟩ := rows_evs hrows
  refine ⟨Z 0, sv, n, E, fun k => Z (k + 2), ?_, hE, ⟨?_, hb, ?_, ?_⟩⟩
  · apply List.ext_getElem?
    intro k
    by_cases hk : k < 26
    · rw [entL_get _ _ _ _ hk]
      unfold entF inpV
      by_cases h0 : k = 0
      · subst h0; rw [if_pos rfl]; exact (hZ 0 .i64 (by omega) (by omega) rfl).1
      · by_cases h1' : k = 1
        · subst h1'; rw [if_neg (by omega), if_pos rfl]; exact h1
        · rw [if_neg h0, if_neg h1']
          have := (hZ k _ hk h1' (by have := kE (k - 2) (by omega); rwa [show k - 2 + 2 = k by omega] at this)).1
          rw [this]
          show _ = some (Value.int _ (Z (k - 2 + 2)))
          rw [show k - 2 + 2 = k by omega]
    · rw [List.getElem?_eq_none (by omega), List.getElem?_eq_none (by rw [entL_len]; omega)]
  · exact bd_i64 (hZ 0 .i64 (by omega) (by omega) rfl).2
  · intro k hk h3
    have := (hZ (k + 2) _ (by omega) (by omega) (kE k hk)).2
    rw [if_neg h3] at this
    exact bd_i8 this
  · intro k hk h3
    have := (hZ (k + 2) _ (by omega) (by omega) (kE k hk)).2
    rw [if_pos h3] at this
    exact bd_u8 this

theorem choose_lt' {α : Type} [Inhabited α] {n : Nat} {p : Nat → α → Prop} (h : ∀ i, i < n → ∃ a, p i a) : ∃ f : Nat → α, ∀ i, i < n → p i (f i) := by
  refine ⟨fun i => if hi : i < n then (h i hi).choose else default, fun i hi => ?_⟩
  simp only [hi, dif_pos]
  exact (h i hi).choose_spec
instance : Inhabited Ent := ⟨⟨0, 0, fun _ _ => 0, fun _ => 0⟩⟩
def IsEnts (w : World) (v : Value) : Prop := ∃ n D, EntsV w v n D ∧ (∀ i, i < n → EntB (D i).fr (D i).n (D i).E (D i).I) ∧ ∀ m c, v = .slice none m c → c = 0
set_option maxRecDepth 100000 in
theorem open_ents {H : Type} {enc : TypeId × Value → H} {W : World} {b0 : Nat} {x : Value} {d : DataW H} {p : List MemPlace} (hv : Value.okWide Try.prog W .any b0 27 x) (h : DataW.Trod enc Try.prog W 0 (fun _ => true) true 27 x d p) : IsEnts W x := by
  obtain ⟨a, len, cap, rfl⟩ := okWide_slice Try.underlying27 hv
  obtain ⟨fuel, hf⟩ := h
  rcases Deep.open_slice Try.underlying27 hf with ⟨hcs, _⟩ | ⟨x, l, c, m, n, D, Pl, hcs, _, hl, hm, hmm, _, hx⟩
  · simp [Value.cells] at hcs
    obtain ⟨rfl, rfl, rfl⟩ := hcs
    exact ⟨0, fun _ => default, ⟨none, 0, rfl, Nat.le_refl _, Nat.zero_le _, fun h => absurd h (by omega)⟩, fun i hi => absurd hi (by omega), fun m c h => by injection h with _ _ h; exact h.symm⟩
  · simp [Value.cells] at hcs
    obtain ⟨rfl, rfl, rfl⟩ := hcs
    have hmc : m = cap := by simpa using hmm
    have h26 : Try.prog.cellsOf 37 = 26 := by kernel_rfl
    have each : ∀ i, i < len → ∃ y : Ent, (∃ sv, (∀ k, k < 26 → W.cell? (x.add (i * 26 + k)) = some (entF y.fr sv y.I k)) ∧ EvsV W sv y.n y.E) ∧ EntB y.fr y.n y.E y.I := fun i hi => by
      obtain ⟨cs', hcs', htr⟩ := hx i (by omega)
      obtain ⟨_, hcl, hat⟩ := World.cells?_some hcs'
      rw [h26] at hcl hat
      obtain ⟨fr, sv, nn, E, I, rfl, hE, hB⟩ := ent_of_cs htr hcl
      refine ⟨⟨fr, nn, E, I⟩, ⟨sv, fun k hk => ?_, hE⟩, hB⟩
      have h1 := hat k hk
      rw [entL_get _ _ _ _ hk] at h1
      rw [← Go.Deep.add_add]
      exact h1
    by_cases h0 : 0 < len
    · obtain ⟨D', hD'⟩ := choose_lt' each
      obtain ⟨b, o, s⟩ := x
      obtain ⟨⟨sv0, hc0, -⟩, -⟩ := hD' 0 h0
      have hz0 := hc0 0 (by omega)
      have hs : s = none := by simpa [Addr.add] using World.cell?_spot hz0
      subst hs
      rw [Go.WideShapes.add_plain] at hz0
      refine ⟨len, D', ⟨_, cap, rfl, hl, hm, fun _ => ⟨b, o, rfl, block_of_cell hz0, fun i hi => ?_⟩⟩, fun i hi => (hD' i hi).2, fun m c h => by injection h with h; cases h⟩
      obtain ⟨⟨sv, hc, hE⟩, -⟩ := hD' i hi
      refine ⟨sv, ⟨fun k hk => ?_⟩, hE⟩
      have := hc k hk
      rw [Go.WideShapes.add_plain] at this
      rw [Nat.add_assoc]
      exact this
    · exact ⟨len, fun _ => default, ⟨_, cap, rfl, hl, hm, fun h => absurd h h0⟩, fun i hi => absurd hi (by omega), fun m c h => by injection h with h; cases h⟩
theorem sameB_symm (x y : Ent) : sameD x y = sameD y x := by
  unfold sameD sameB
  have e1 : (x.fr == y.fr) = (y.fr == x.fr) := by rw [Bool.eq_iff_iff, beq_iff_eq, beq_iff_eq]; exact ⟨Eq.symm, Eq.symm⟩
  have e2 : inpsEq x.I y.I = inpsEq y.I x.I := by rw [Bool.eq_iff_iff, inpsEq_iff, inpsEq_iff]; exact ⟨fun h k hk => (h k hk).symm, fun h k hk => (h k hk).symm⟩
  rw [e1, e2]
  by_cases hn : x.n = y.n
  · have e3 : evsEq x.E y.E x.n = evsEq y.E x.E y.n := by
      rw [Bool.eq_iff_iff, evsEq_iff, evsEq_iff, hn]
      exact ⟨fun h i hi => by obtain ⟨a, b, c, d⟩ := h i hi; exact ⟨a.symm, b.symm, c.symm, d.symm⟩, fun h i hi => by obtain ⟨a, b, c, d⟩ := h i hi; exact ⟨a.symm, b.symm, c.symm, d.symm⟩⟩
    rw [e3, decide_eq_true hn, decide_eq_true hn.symm]
  · rw [decide_eq_false hn, decide_eq_false (fun h => hn h.symm)]
    rfl
theorem sameD_refl (x : Ent) : sameD x x = true := by
  unfold sameD sameB
  rw [(inpsEq_iff _ _).2 (fun _ _ => rfl), (evsEq_iff _ _ _).2 (fun _ _ => ⟨rfl, rfl, rfl, rfl⟩), decide_eq_true rfl]
  simp
theorem entsEq_of (D D' : Nat → Ent) : ∀ n, (∀ i, i < n → D i = D' i) → entsEq D D' n = true
  | 0, _ => rfl
  | n + 1, h => by
    unfold entsEq
    rw [entsEq_of D D' n (fun i hi => h i (by omega)), h n (by omega), sameD_refl]
    rfl
end Go.Proofs.Ytembppihfcclcaa

namespace Go.Proofs.Ytembppihfcclcaa
set_option linter.unusedVariables false
open Go.ChangeShapes Go.WideShapes Go.ChangeAt Go.RowKit

set_option linter.unusedSimpArgs false
theorem ents_of_cs {H : Type} {enc : TypeId × Value → H} {W : World} {cs : List Value} {fuel : Nat} {x : DataW H × List MemPlace} (hf : DataW.trod enc Try.prog W 0 (fun _ => true) true fuel 27 cs = some x) : ∃ v, cs = [v] ∧ ∃ n D, EntsV W v n D ∧ ∀ i, i < n → EntB (D i).fr (D i).n (D i).E (D i).I := by
  rcases Deep.open_slice Try.underlying27 hf with ⟨hcs, _⟩ | ⟨x, l, c, m, n, D, Pl, hcs, _, hl, hm, hmm, _, hx⟩
  · exact ⟨_, hcs, 0, fun _ => default, ⟨none, 0, rfl, Nat.le_refl _, Nat.zero_le _, fun h => absurd h (by omega)⟩, fun i hi => absurd hi (by omega)⟩
  · refine ⟨_, hcs, ?_⟩
    have h26 : Try.prog.cellsOf 37 = 26 := by kernel_rfl
    have hmc : m = c := by simpa using hmm
    have each : ∀ i, i < l → ∃ y : Ent, (∃ sv, (∀ k, k < 26 → W.cell? (x.add (i * 26 + k)) = some (entF y.fr sv y.I k)) ∧ EvsV W sv y.n y.E) ∧ EntB y.fr y.n y.E y.I := fun i hi => by
      obtain ⟨cs', hcs', htr⟩ := hx i (by omega)
      obtain ⟨_, hcl, hat⟩ := World.cells?_some hcs'
      rw [h26] at hcl hat
      obtain ⟨fr, sv, nn, E, I, rfl, hE, hB⟩ := ent_of_cs htr hcl
      refine ⟨⟨fr, nn, E, I⟩, ⟨sv, fun k hk => ?_, hE⟩, hB⟩
      have h1 := hat k hk
      rw [entL_get _ _ _ _ hk] at h1
      rw [← Go.Deep.add_add]
      exact h1
    by_cases h0 : 0 < l
    · obtain ⟨D', hD'⟩ := choose_lt' each
      obtain ⟨b, o, s⟩ := x
      obtain ⟨⟨sv0, hc0, -⟩, -⟩ := hD' 0 h0
      have hz0 := hc0 0 (by omega)
      have hs : s = none := by simpa [Addr.add] using World.cell?_spot hz0
      subst hs
      rw [Go.WideShapes.add_plain] at hz0
      refine ⟨l, D', ⟨_, c, rfl, hl, hm, fun _ => ⟨b, o, rfl, block_of_cell hz0, fun i hi => ?_⟩⟩, fun i hi => (hD' i hi).2⟩
      obtain ⟨⟨sv, hc, hE⟩, -⟩ := hD' i hi
      refine ⟨sv, ⟨fun k hk => ?_⟩, hE⟩
      have := hc k hk
      rw [Go.WideShapes.add_plain] at this
      rw [Nat.add_assoc]
      exact this
    · exact ⟨l, fun _ => default, ⟨_, c, rfl, hl, hm, fun h => absurd h h0⟩, fun i hi => absurd hi (by omega)⟩
def k3 : List IntKind := [.i8, .i8, .u8]
theorem rows_inps {w : World} {v : Value} (h : IsRows k3 w v) : ∃ n I, InpsV w v n I ∧ ∀ i, i < n → (-128 ≤ I (i * 3) ∧ I (i * 3) ≤ 127) ∧ (-128 ≤ I (i * 3 + 1) ∧ I (i * 3 + 1) ≤ 127) ∧ (0 ≤ I (i * 3 + 2) ∧ I (i * 3 + 2) ≤ 255) := by
  obtain ⟨a, n, cap, rfl, h1, h2, h3⟩ := h
  by_cases hn : 0 < n
  · obtain ⟨b, o, z, rfl, hb, hc⟩ := h3 hn
    have e0 : ∀ i, z (i * 3 / 3) (i * 3 % 3) = z i 0 := fun i => by rw [show i * 3 / 3 = i by omega, show i * 3 % 3 = 0 by omega]
    have e1 : ∀ i, z ((i * 3 + 1) / 3) ((i * 3 + 1) % 3) = z i 1 := fun i => by rw [show (i * 3 + 1) / 3 = i by omega, show (i * 3 + 1) % 3 = 1 by omega]
    have e2 : ∀ i, z ((i * 3 + 2) / 3) ((i * 3 + 2) % 3) = z i 2 := fun i => by rw [show (i * 3 + 2) / 3 = i by omega, show (i * 3 + 2) % 3 = 2 by omega]
    refine ⟨n, fun k => z (k / 3) (k % 3), ⟨_, cap, rfl, h1, h2, fun _ => ⟨b, o, rfl, hb, ⟨fun i hi => ?_, fun i hi => ?_, fun i hi => ?_⟩⟩⟩, fun i hi => ⟨?_, ?_, ?_⟩⟩
    · show _ = some (Value.int .i8 (z (i * 3 / 3) (i * 3 % 3))); rw [e0]; exact (hc i hi 0 .i8 rfl).1
    · show _ = some (Value.int .i8 (z ((i * 3 + 1) / 3) ((i * 3 + 1) % 3))); rw [e1]; exact (hc i hi 1 .i8 rfl).1
    · show _ = some (Value.int .u8 (z ((i * 3 + 2) / 3) ((i * 3 + 2) % 3))); rw [e2]; exact (hc i hi 2 .u8 rfl).1
    · show _ ≤ z (i * 3 / 3) (i * 3 % 3) ∧ z (i * 3 / 3) (i * 3 % 3) ≤ _; rw [e0]; exact bd_i8 (hc i hi 0 .i8 rfl).2
    · show _ ≤ z ((i * 3 + 1) / 3) ((i * 3 + 1) % 3) ∧ z ((i * 3 + 1) / 3) ((i * 3 + 1) % 3) ≤ _; rw [e1]; exact bd_i8 (hc i hi 1 .i8 rfl).2
    · show _ ≤ z ((i * 3 + 2) / 3) ((i * 3 + 2) % 3) ∧ z ((i * 3 + 2) / 3) ((i * 3 + 2) % 3) ≤ _; rw [e2]; exact bd_u8 (hc i hi 2 .u8 rfl).2
  · exact ⟨n, fun _ => 0, ⟨_, cap, rfl, h1, h2, fun h => absurd h hn⟩, fun i hi => absurd hi (by omega)⟩
theorem rows_bs {w : World} {v : Value} (h : IsRows [.u8] w v) : ∃ bs, BytesV w v bs ∧ ByteL bs := by
  obtain ⟨a, len, cap, rfl, h1, h2, h3⟩ := h
  by_cases h0 : 0 < len
  · obtain ⟨b, o, z, e, hb, hc⟩ := h3 h0
    have hl : ((List.range len).map (fun i => z i 0)).length = len := by rw [List.length_map, List.length_range]
    have hz : ∀ i, i < len → ((List.range len).map (fun i => z i 0)).getD i 0 = z i 0 := fun i hi => by
      rw [List.getD_eq_getElem?_getD, List.getElem?_map, List.getElem?_range hi]; rfl
    refine ⟨(List.range len).map (fun i => z i 0), ⟨a, cap, by rw [hl], by omega, h2, fun _ => ⟨b, o, e, hb, fun i hi => ?_⟩⟩, ?_⟩
    · rw [hl] at hi
      rw [hz i hi]
      have := (hc i hi 0 .u8 rfl).1
      simpa using this
    · rw [byteL_iff]
      intro x hx
      rw [List.mem_map] at hx
      obtain ⟨i, hi, rfl⟩ := hx
      have := bd_u8 (hc i (List.mem_range.1 hi) 0 .u8 rfl).2
      omega
  · obtain rfl : len = 0 := by omega
    exact ⟨[], ⟨a, cap, rfl, h1, h2, fun h => absurd h (by simp)⟩, fun i => by unfold zz; simp⟩
def kMsg (k : Nat) : Option IntKind := if k < 13 then some (mk k) else none
/-- A message that came in. -/
def IsMsg (w : World) (v : Value) : Prop := ∃ M iv lv dv, v = .agg (msgL M.F iv lv dv).toArray ∧ RowsV w iv lv dv M ∧ MsgB M ∧ ∀ k, k < 13 → (mk k).min ≤ M.F k ∧ M.F k ≤ (mk k).max
set_option maxRecDepth 100000 in
set_option maxHeartbeats 1000000 in
theorem open_msg {H : Type} {enc : TypeId × Value → H} {W : World} {b0 : Nat} {x : Value} {d : DataW H} {p : List MemPlace} (hv : Value.okWide Try.prog W .any b0 30 x) (h : DataW.Trod enc Try.prog W 0 (fun _ => true) true 30 x d p) : IsMsg W x := by
  obtain ⟨cs, rfl, hsz⟩ := okWide_struct Try.underlying30 hv
  have hsz16 : cs.size = 16 := hsz.trans (by kernel_rfl)
  obtain ⟨fuel, hf⟩ := h
  have hcells : (Value.agg cs).cells.toList = cs.toList := rfl
  have hk : ∀ k, k < 13 → kindAt Try.prog 8 30 k = kMsg k := by
    have h0 : (List.range 13).all (fun k => kindAt Try.prog 8 30 k == kMsg k) = true := by kernel_rfl
    intro k hk
    exact eq_of_beq (List.all_eq_true.1 h0 k (List.mem_range.2 hk))
  have each : ∀ k, k < 13 → ∃ z, cs[k]? = some (.int (mk k) z) ∧ (mk k).min ≤ z ∧ z ≤ (mk k).max := fun k hk13 => by
    obtain ⟨z, hz, hw⟩ := trod_kind 8 _ 30 _ _ k (mk k) ((hk k hk13).trans (by unfold kMsg; rw [if_pos hk13])) hf
    refine ⟨z, ?_, wf_bounds hw⟩
    rw [← Array.getElem?_toList]
    exact hz
  obtain ⟨xs, n', _, _, hlen, hxl, hfs⟩ := DataW.trod_struct Try.underlying30 hf
  have get1 : ∀ {o : Nat} {T : TypeId} {v : Value} (_ : List.take (Try.prog.cellsOf T) (List.drop o cs.toList) = [v]) (_ : Try.prog.cellsOf T = 1), cs[o]? = some v := by
    intro o T v h1 h2
    rw [h2] at h1
    have := congrArg (fun l => l[0]?) h1
    rw [← Array.getElem?_toList]
    simpa [List.getElem?_take, List.getElem?_drop] using this
  have f13 := hfs 13 _ rfl
  have f14 := hfs 14 _ rfl
  have f15 := hfs 15 _ rfl
  have x13 : 13 < xs.length := by rw [hxl]; decide
  have x14 : 14 < xs.length := by rw [hxl]; decide
  have x15 : 15 < xs.length := by rw [hxl]; decide
  rw [List.getElem?_eq_getElem x13] at f13
  rw [List.getElem?_eq_getElem x14] at f14
  rw [List.getElem?_eq_getElem x15] at f15
  obtain ⟨iv, hiv, hri⟩ := open_rows_cs k3 Try.underlying26 (by kernel_rfl) (by decide) (by kernel_rfl) f13
  obtain ⟨lv, hlv, nl, D, hrl, hbl⟩ := ents_of_cs f14
  obtain ⟨dv, hdv, hrd⟩ := open_rows_cs [.u8] Try.underlying28 (by kernel_rfl) (by decide) (by kernel_rfl) f15
  have c13 : cs[13]? = some iv := get1 hiv (by kernel_rfl)
  have c14 : cs[14]? = some lv := get1 hlv (by kernel_rfl)
  have c15 : cs[15]? = some dv := get1 hdv (by kernel_rfl)
  clear hiv hlv hdv f13 f14 f15 hfs hxl hlen hf hcells hk x13 x14 x15
  have hex : ∀ k, ∃ z : Int, k < 13 → cs[k]? = some (.int (mk k) z) ∧ (mk k).min ≤ z ∧ z ≤ (mk k).max := fun k => by
    by_cases hk : k < 13
    · obtain ⟨z, hz⟩ := each k hk
      exact ⟨z, fun _ => hz⟩
    · exact ⟨0, fun h => absurd h hk⟩
  obtain ⟨Z, hZ⟩ := Classical.axiomOfChoice hex
  obtain ⟨ni, I, hI, hbi⟩ := rows_inps hri
  obtain ⟨bs, hbs, hby⟩ := rows_bs hrd
  refine ⟨⟨Z, ni, I, nl, D, bs⟩, iv, lv, dv, ?_, ⟨hI, hrl, hbs⟩, ⟨?_, ?_, ?_, ?_, ?_, fun i hi => (hbi i hi).2.2, fun i hi => ⟨(hbi i hi).1, (hbi i hi).2.1⟩, hbl, hby⟩, fun k hk => (hZ k hk).2⟩
  · congr 1
    apply Array.ext_getElem?
    intro k
    have e : (msgL Z iv lv dv).toArray[k]? = (msgL Z iv lv dv)[k]? := List.getElem?_toArray
    rw [e]
    by_cases hk : k < 16
    · rw [msgL_get _ _ _ _ _ hk]
      unfold msgF
      by_cases h13 : k = 13
      · subst h13; rw [if_pos rfl]; exact c13
      · by_cases h14 : k = 14
        · subst h14; rw [if_neg (by omega), if_pos rfl]; exact c14
        · by_cases h15 : k = 15
          · subst h15; rw [if_neg (by omega), if_neg (by omega), if_pos rfl]; exact c15
          · rw [if_neg h13, if_neg h14, if_neg h15]
            exact (hZ k (by omega)).1
    · rw [Array.getElem?_eq_none (by omega), List.getElem?_eq_none (by rw [msgL_len]; omega)]
  · have := bd_u16 (hZ 2 (by omega)).2; exact ⟨this.1, by show Z 2 < _; omega⟩
  · have := bd_u16 (hZ 3 (by omega)).2; exact ⟨this.1, by show Z 3 < _; omega⟩
  · have := bd_u32 (hZ 4 (by omega)).2; exact ⟨this.1, by show Z 4 < _; omega⟩
  · have := bd_u32 (hZ 11 (by omega)).2; exact ⟨this.1, by show Z 11 < _; omega⟩
  · have := bd_u64 (hZ 12 (by omega)).2; exact ⟨this.1, by show Z 12 < _; omega⟩
end Go.Proofs.Ytembppihfcclcaa

namespace Go.Proofs.Ytembppihfcclcaa
set_option linter.unusedVariables false
open Go.ChangeShapes Go.WideShapes Go.ChangeAt Go.RowKit

set_option linter.unusedSimpArgs false
def IsB (e : Ending) : Prop := ∃ b, e = .returned (.bool b)
theorem fewM_any (M : Msg) (iv lv dv : Value) (w : World) (hr : RowsV w iv lv dv M) :
    Calls Try.prog 15 #[.agg (msgL M.F iv lv dv).toArray] w fun e w' => IsB e ∧ Below w.heap.size w w' := by
  have HA := Lib.hid (msgAt_new M.F iv lv dv 30 w)
  have HB := Lib.hid ((Below.refl w.heap.size w).alloc (Nat.le_refl _) (Obj.cells (msgL M.F iv lv dv).toArray 30))
  have HRows := Lib.hid (hr.below HB.out (Nat.le_refl _))
  obtain ⟨⟨a1, cap1, rfl, hn1, hm1, -⟩, ⟨a2, cap2, rfl, hn2, hm2, hev⟩, ⟨a3, cap3, rfl, hn3, hm3, -⟩⟩ := hr
  have HEV := Lib.hid hev
  unfold maxLen at hm1 hm2 hm3
  have c13 := HA.out.c13
  have c14 := HA.out.c14
  have c15 := HA.out.c15
  clear hev
  generalize hni : M.ni = ni at *
  generalize hnl : M.nl = nl at *
  generalize hnd : M.d.length = nd at *
  generalize hF : M.F = F at *
  generalize hD : M.D = D at *
  clear hni hnd hF HRows
  by_cases h1 : 20 < ni
  · have h1' : (20 : Int) < (ni : Int) := by omega
    go_enter Try.func15, Try.ntmps15
    go_wp2_with fail
    go_ret
    exact ⟨⟨_, rfl⟩, HB.out⟩
  have h1' : ¬ (20 : Int) < (ni : Int) := by omega
  by_cases h2 : 20 < nl
  · have h2' : (20 : Int) < (nl : Int) := by omega
    go_enter Try.func15, Try.ntmps15
    go_wp2_with fail
    go_ret
    exact ⟨⟨_, rfl⟩, HB.out⟩
  have h2' : ¬ (20 : Int) < (nl : Int) := by omega
  by_cases h3 : 100 < nd
  · have h3' : (100 : Int) < (nd : Int) := by omega
    go_enter Try.func15, Try.ntmps15
    go_wp2_with fail
    go_ret
    exact ⟨⟨_, rfl⟩, HB.out⟩
  have h3' : ¬ (100 : Int) < (nd : Int) := by omega
  go_enter Try.func15, Try.ntmps15
  go_wp2_with fail
  clear c13 c14 c15
  generalize w.alloc (Obj.cells (msgL F (.slice a1 ni cap1) (.slice a2 nl cap2) (.slice a3 nd cap3)).toArray 30) = w1 at *
  go_loopw [3] (fun i wr => ∃ k : Nat, k ≤ nl ∧ i = .int .i64 k ∧ MsgAt wr w.heap.size F (.slice a1 ni cap1) (.slice a2 nl cap2) (.slice a3 nd cap3) ∧ Below w.heap.size w wr) (fun i _ => nl - (intOf i).toNat)
  case atStart => exact ⟨0, by omega, rfl, HA.out, HB.out⟩
  case round =>
    obtain ⟨k, hk, rfl, hA, hB⟩ := hrel
    clear HA HB
    have HA := Lib.hid hA
    have HB := Lib.hid hB
    have c14 := HA.out.c14
    clear hA
    by_cases hlt : k < nl
    · obtain ⟨b, o, rfl, hbl, hin⟩ := HEV.out (by omega)
      obtain ⟨sv, he, hs⟩ := (hin.below hB (Nat.le_refl _)) k hlt
      have hki : (k : Int) < (nl : Int) := by omega
      have HE := Lib.hid he
      have HS := Lib.hid hs
      clear hB he hs hin
      generalize D k = x at *
      go_wp2_with (refine wpList_load_g (by rfl) 37 _ rfl b (o + k * 26) rfl _ _ HE.out.range Try.underlying37 rfl (size_ent _ _ _) ?_)
      refine (few_any x.fr sv x.n x.E x.I _ HS.out).mono ?_
      rintro e w2 ⟨rfl, hb2⟩
      have HA2 := Lib.hid (HA.out.block (hb2.block _ HA.out.lt))
      have HB2 := Lib.hid (HB.out.trans (hb2.mono HB.out.size))
      clear hb2 HE HS HA HB c14
      cases hs : decide (x.n ≤ 20) with
      | false =>
        go_wp2_with fail
        go_ret
        exact ⟨⟨_, rfl⟩, HB2.out⟩
      | true =>
        go_wp2_with fail
        all_goals first | exact ⟨⟨k + 1, by omega, by go_num, HA2.out, HB2.out⟩, by simp [intOf]; omega⟩ | exact ⟨k + 1, by omega, by go_num, HA2.out, HB2.out⟩ | (simp [intOf]; omega) | go_roundw
    · obtain rfl : k = nl := by omega
      go_wp2_with fail
      go_ret
      exact ⟨⟨_, rfl⟩, hB⟩
end Go.Proofs.Ytembppihfcclcaa
