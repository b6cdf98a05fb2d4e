/-
  Wire: messages that came in.
-/
import Derived.Test.YtembppihfcclcaaMU
import Derived.Test.YtembppihfcclcaaS
namespace Go.Proofs.Ytembppihfcclcaa
set_option linter.unusedVariables false
open Go.ChangeShapes Go.WideShapes Go.ChangeAt Go.RowKit

set_option linter.unusedSimpArgs false
theorem ents_of_cs {H : Type} {enc : TypeId × Value → H} {W : World} {cs : List Value} {fuel : Nat} {x : DataW H × List MemPlace} (hf : DataW.trod enc Try.prog W 0 (fun _ => true) true fuel 27 cs = some x) : ∃ v, cs = [v] ∧ ∃ n D, EntsV W v n D ∧ ∀ i, i < n → EntB (D i).fr (D i).n (D i).E (D i).I := by
  rcases Deep.open_slice Try.underlying27 hf with ⟨hcs, _⟩ | ⟨x, l, c, m, n, D, Pl, hcs, _, hl, hm, hmm, _, hx⟩
  · exact ⟨_, hcs, 0, fun _ => default, ⟨none, 0, rfl, Nat.le_refl _, Nat.zero_le _, fun h => absurd h (by omega)⟩, fun i hi => absurd hi (by omega)⟩
  · refine ⟨_, hcs, ?_⟩
    have h26 : Try.prog.cellsOf 37 = 26 := by kernel_rfl
    have hmc : m = c := by simpa using hmm
    have each : ∀ i, i < l → ∃ y : Ent, (∃ sv, (∀ k, k < 26 → W.cell? (x.add (i * 26 + k)) = some (entF y.fr sv y.I k)) ∧ EvsV W sv y.n y.E) ∧ EntB y.fr y.n y.E y.I := fun i hi => by
      obtain ⟨cs', hcs', htr⟩ := hx i (by omega)
      obtain ⟨_, hcl, hat⟩ := World.cells?_some hcs'
      rw [h26] at hcl hat
      obtain ⟨fr, sv, nn, E, I, rfl, hE, hB⟩ := ent_of_cs htr hcl
      refine ⟨⟨fr, nn, E, I⟩, ⟨sv, fun k hk => ?_, hE⟩, hB⟩
      have h1 := hat k hk
      rw [entL_get _ _ _ _ hk] at h1
      rw [← Go.Deep.add_add]
      exact h1
    by_cases h0 : 0 < l
    · obtain ⟨D', hD'⟩ := choose_lt' each
      obtain ⟨b, o, s⟩ := x
      obtain ⟨⟨sv0, hc0, -⟩, -⟩ := hD' 0 h0
      have hz0 := hc0 0 (by omega)
      have hs : s = none := by simpa [Addr.add] using World.cell?_spot hz0
      subst hs
      rw [Go.WideShapes.add_plain] at hz0
      refine ⟨l, D', ⟨_, c, rfl, hl, hm, fun _ => ⟨b, o, rfl, block_of_cell hz0, fun i hi => ?_⟩⟩, fun i hi => (hD' i hi).2⟩
      obtain ⟨⟨sv, hc, hE⟩, -⟩ := hD' i hi
      refine ⟨sv, ⟨fun k hk => ?_⟩, hE⟩
      have := hc k hk
      rw [Go.WideShapes.add_plain] at this
      rw [Nat.add_assoc]
      exact this
    · exact ⟨l, fun _ => default, ⟨_, c, rfl, hl, hm, fun h => absurd h h0⟩, fun i hi => absurd hi (by omega)⟩
def k3 : List IntKind := [.i8, .i8, .u8]
theorem rows_inps {w : World} {v : Value} (h : IsRows k3 w v) : ∃ n I, InpsV w v n I ∧ ∀ i, i < n → (-128 ≤ I (i * 3) ∧ I (i * 3) ≤ 127) ∧ (-128 ≤ I (i * 3 + 1) ∧ I (i * 3 + 1) ≤ 127) ∧ (0 ≤ I (i * 3 + 2) ∧ I (i * 3 + 2) ≤ 255) := by
  obtain ⟨a, n, cap, rfl, h1, h2, h3⟩ := h
  by_cases hn : 0 < n
  · obtain ⟨b, o, z, rfl, hb, hc⟩ := h3 hn
    have e0 : ∀ i, z (i * 3 / 3) (i * 3 % 3) = z i 0 := fun i => by rw [show i * 3 / 3 = i by omega, show i * 3 % 3 = 0 by omega]
    have e1 : ∀ i, z ((i * 3 + 1) / 3) ((i * 3 + 1) % 3) = z i 1 := fun i => by rw [show (i * 3 + 1) / 3 = i by omega, show (i * 3 + 1) % 3 = 1 by omega]
    have e2 : ∀ i, z ((i * 3 + 2) / 3) ((i * 3 + 2) % 3) = z i 2 := fun i => by rw [show (i * 3 + 2) / 3 = i by omega, show (i * 3 + 2) % 3 = 2 by omega]
    refine ⟨n, fun k => z (k / 3) (k % 3), ⟨_, cap, rfl, h1, h2, fun _ => ⟨b, o, rfl, hb, ⟨fun i hi => ?_, fun i hi => ?_, fun i hi => ?_⟩⟩⟩, fun i hi => ⟨?_, ?_, ?_⟩⟩
    · show _ = some (Value.int .i8 (z (i * 3 / 3) (i * 3 % 3))); rw [e0]; exact (hc i hi 0 .i8 rfl).1
    · show _ = some (Value.int .i8 (z ((i * 3 + 1) / 3) ((i * 3 + 1) % 3))); rw [e1]; exact (hc i hi 1 .i8 rfl).1
    · show _ = some (Value.int .u8 (z ((i * 3 + 2) / 3) ((i * 3 + 2) % 3))); rw [e2]; exact (hc i hi 2 .u8 rfl).1
    · show _ ≤ z (i * 3 / 3) (i * 3 % 3) ∧ z (i * 3 / 3) (i * 3 % 3) ≤ _; rw [e0]; exact bd_i8 (hc i hi 0 .i8 rfl).2
    · show _ ≤ z ((i * 3 + 1) / 3) ((i * 3 + 1) % 3) ∧ z ((i * 3 + 1) / 3) ((i * 3 + 1) % 3) ≤ _; rw [e1]; exact bd_i8 (hc i hi 1 .i8 rfl).2
    · show _ ≤ z ((i * 3 + 2) / 3) ((i * 3 + 2) % 3) ∧ z ((i * 3 + 2) / 3) ((i * 3 + 2) % 3) ≤ _; rw [e2]; exact bd_u8 (hc i hi 2 .u8 rfl).2
  · exact ⟨n, fun _ => 0, ⟨_, cap, rfl, h1, h2, fun h => absurd h hn⟩, fun i hi => absurd hi (by omega)⟩
theorem rows_bs {w : World} {v : Value} (h : IsRows [.u8] w v) : ∃ bs, BytesV w v bs ∧ ByteL bs := by
  obtain ⟨a, len, cap, rfl, h1, h2, h3⟩ := h
  by_cases h0 : 0 < len
  · obtain ⟨b, o, z, e, hb, hc⟩ := h3 h0
    have hl : ((List.range len).map (fun i => z i 0)).length = len := by rw [List.length_map, List.length_range]
    have hz : ∀ i, i < len → ((List.range len).map (fun i => z i 0)).getD i 0 = z i 0 := fun i hi => by
      rw [List.getD_eq_getElem?_getD, List.getElem?_map, List.getElem?_range hi]; rfl
    refine ⟨(List.range len).map (fun i => z i 0), ⟨a, cap, by rw [hl], by omega, h2, fun _ => ⟨b, o, e, hb, fun i hi => ?_⟩⟩, ?_⟩
    · rw [hl] at hi
      rw [hz i hi]
      have := (hc i hi 0 .u8 rfl).1
      simpa using this
    · rw [byteL_iff]
      intro x hx
      rw [List.mem_map] at hx
      obtain ⟨i, hi, rfl⟩ := hx
      have := bd_u8 (hc i (List.mem_range.1 hi) 0 .u8 rfl).2
      omega
  · obtain rfl : len = 0 := by omega
    exact ⟨[], ⟨a, cap, rfl, h1, h2, fun h => absurd h (by simp)⟩, fun i => by unfold zz; simp⟩
def kMsg (k : Nat) : Option IntKind := if k < 13 then some (mk k) else none
/-- A message that came in. -/
def IsMsg (w : World) (v : Value) : Prop := ∃ M iv lv dv, v = .agg (msgL M.F iv lv dv).toArray ∧ RowsV w iv lv dv M ∧ MsgB M ∧ ∀ k, k < 13 → (mk k).min ≤ M.F k ∧ M.F k ≤ (mk k).max
set_option maxRecDepth 100000 in
set_option maxHeartbeats 1000000 in
theorem open_msg {H : Type} {enc : TypeId × Value → H} {W : World} {b0 : Nat} {x : Value} {d : DataW H} {p : List MemPlace} (hv : Value.okWide Try.prog W .any b0 30 x) (h : DataW.Trod enc Try.prog W 0 (fun _ => true) true 30 x d p) : IsMsg W x := by
  obtain ⟨cs, rfl, hsz⟩ := okWide_struct Try.underlying30 hv
  have hsz16 : cs.size = 16 := hsz.trans (by kernel_rfl)
  obtain ⟨fuel, hf⟩ := h
  have hcells : (Value.agg cs).cells.toList = cs.toList := rfl
  have hk : ∀ k, k < 13 → kindAt Try.prog 8 30 k = kMsg k := by
    have h0 : (List.range 13).all (fun k => kindAt Try.prog 8 30 k == kMsg k) = true := by kernel_rfl
    intro k hk
    exact eq_of_beq (List.all_eq_true.1 h0 k (List.mem_range.2 hk))
  have each : ∀ k, k < 13 → ∃ z, cs[k]? = some (.int (mk k) z) ∧ (mk k).min ≤ z ∧ z ≤ (mk k).max := fun k hk13 => by
    obtain ⟨z, hz, hw⟩ := trod_kind 8 _ 30 _ _ k (mk k) ((hk k hk13).trans (by unfold kMsg; rw [if_pos hk13])) hf
    refine ⟨z, ?_, wf_bounds hw⟩
    rw [← Array.getElem?_toList]
    exact hz
  obtain ⟨xs, n', _, _, hlen, hxl, hfs⟩ := DataW.trod_struct Try.underlying30 hf
  have get1 : ∀ {o : Nat} {T : TypeId} {v : Value} (_ : List.take (Try.prog.cellsOf T) (List.drop o cs.toList) = [v]) (_ : Try.prog.cellsOf T = 1), cs[o]? = some v := by
    intro o T v h1 h2
    rw [h2] at h1
    have := congrArg (fun l => l[0]?) h1
    rw [← Array.getElem?_toList]
    simpa [List.getElem?_take, List.getElem?_drop] using this
  have f13 := hfs 13 _ rfl
  have f14 := hfs 14 _ rfl
  have f15 := hfs 15 _ rfl
  have x13 : 13 < xs.length := by rw [hxl]; decide
  have x14 : 14 < xs.length := by rw [hxl]; decide
  have x15 : 15 < xs.length := by rw [hxl]; decide
  rw [List.getElem?_eq_getElem x13] at f13
  rw [List.getElem?_eq_getElem x14] at f14
  rw [List.getElem?_eq_getElem x15] at f15
  obtain ⟨iv, hiv, hri⟩ := open_rows_cs k3 Try.underlying26 (by kernel_rfl) (by decide) (by kernel_rfl) f13
  obtain ⟨lv, hlv, nl, D, hrl, hbl⟩ := ents_of_cs f14
  obtain ⟨dv, hdv, hrd⟩ := open_rows_cs [.u8] Try.underlying28 (by kernel_rfl) (by decide) (by kernel_rfl) f15
  have c13 : cs[13]? = some iv := get1 hiv (by kernel_rfl)
  have c14 : cs[14]? = some lv := get1 hlv (by kernel_rfl)
  have c15 : cs[15]? = some dv := get1 hdv (by kernel_rfl)
  clear hiv hlv hdv f13 f14 f15 hfs hxl hlen hf hcells hk x13 x14 x15
  have hex : ∀ k, ∃ z : Int, k < 13 → cs[k]? = some (.int (mk k) z) ∧ (mk k).min ≤ z ∧ z ≤ (mk k).max := fun k => by
    by_cases hk : k < 13
    · obtain ⟨z, hz⟩ := each k hk
      exact ⟨z, fun _ => hz⟩
    · exact ⟨0, fun h => absurd h hk⟩
  obtain ⟨Z, hZ⟩ := Classical.axiomOfChoice hex
  obtain ⟨ni, I, hI, hbi⟩ := rows_inps hri
  obtain ⟨bs, hbs, hby⟩ := rows_bs hrd
  refine ⟨⟨Z, ni, I, nl, D, bs⟩, iv, lv, dv, ?_, ⟨hI, hrl, hbs⟩, ⟨?_, ?_, ?_, ?_, ?_, fun i hi => (hbi i hi).2.2, fun i hi => ⟨(hbi i hi).1, (hbi i hi).2.1⟩, hbl, hby⟩, fun k hk => (hZ k hk).2⟩
  · congr 1
    apply Array.ext_getElem?
    intro k
    have e : (msgL Z iv lv dv).toArray[k]? = (msgL Z iv lv dv)[k]? := List.getElem?_toArray
    rw [e]
    by_cases hk : k < 16
    · rw [msgL_get _ _ _ _ _ hk]
      unfold msgF
      by_cases h13 : k = 13
      · subst h13; rw [if_pos rfl]; exact c13
      · by_cases h14 : k = 14
        · subst h14; rw [if_neg (by omega), if_pos rfl]; exact c14
        · by_cases h15 : k = 15
          · subst h15; rw [if_neg (by omega), if_neg (by omega), if_pos rfl]; exact c15
          · rw [if_neg h13, if_neg h14, if_neg h15]
            exact (hZ k (by omega)).1
    · rw [Array.getElem?_eq_none (by omega), List.getElem?_eq_none (by rw [msgL_len]; omega)]
  · have := bd_u16 (hZ 2 (by omega)).2; exact ⟨this.1, by show Z 2 < _; omega⟩
  · have := bd_u16 (hZ 3 (by omega)).2; exact ⟨this.1, by show Z 3 < _; omega⟩
  · have := bd_u32 (hZ 4 (by omega)).2; exact ⟨this.1, by show Z 4 < _; omega⟩
  · have := bd_u32 (hZ 11 (by omega)).2; exact ⟨this.1, by show Z 11 < _; omega⟩
  · have := bd_u64 (hZ 12 (by omega)).2; exact ⟨this.1, by show Z 12 < _; omega⟩
end Go.Proofs.Ytembppihfcclcaa
