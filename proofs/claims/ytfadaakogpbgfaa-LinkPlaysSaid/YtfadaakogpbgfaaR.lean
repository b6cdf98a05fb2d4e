/-
  Link: a row of whole numbers that came in; LinkQuiet.
-/
import Derived.Test.YtfadaakogpbgfaaQ
namespace Go.Proofs.Ytfadaakogpbgfaa
set_option linter.unusedVariables false
open Go.ChangeShapes Go.WideShapes Go.ChangeAt Go.RowKit Go.Sort

/-- A slice of whole numbers that came in: nil, or a row of cells. -/
def IsRow (k : IntKind) (w : World) (a : Option Addr) (len cap : Nat) (zs : List Int) : Prop :=
  (a = none ∧ len = 0 ∧ cap = 0 ∧ zs = []) ∨
  ∃ x, a = some x ∧ len ≤ cap ∧ cap ≤ maxLen ∧ zs.length = cap ∧ (∀ i, i < zs.length → w.cell? (x.add i) = some (.int k (zs.getD i 0))) ∧ ∀ n ∈ zs, (Lit.int k n).wf = true

theorem isRow_of {H : Type} {enc : TypeId × Value → H} {P : Program} {w : World} {t e : TypeId} {k : IntKind} {a : Option Addr} {len cap : Nat} {d : DataW H} {p : List MemPlace}
    (ht : P.underlying t = some (.slice e)) (he : P.underlying e = some (.int k)) (hc : P.cellsOf e = 1)
    (h : DataW.Trod enc P w 0 (fun _ => true) true t (.slice a len cap) d p) : ∃ zs, IsRow k w a len cap zs := by
  obtain ⟨fuel, hf⟩ := h
  rcases open_ints ht he hc hf with ⟨hcs, _⟩ | ⟨x, l, c, zs, hcs, _, hl, hm, hz, _, hcell, hwz⟩
  · simp [Value.cells] at hcs
    obtain ⟨rfl, rfl, rfl⟩ := hcs
    exact ⟨[], .inl ⟨rfl, rfl, rfl, rfl⟩⟩
  · simp [Value.cells] at hcs
    obtain ⟨rfl, rfl, rfl⟩ := hcs
    exact ⟨zs, .inr ⟨_, rfl, hl, hm, by simpa using hz, hcell, hwz⟩⟩

/-- An element of the slice, where there is one. -/
theorem IsRow.elem {k : IntKind} {w : World} {a : Option Addr} {len cap : Nat} {zs : List Int} (h : IsRow k w a len cap zs) (hl : 0 < len) :
    ∃ b o, a = some ⟨b, o, none⟩ ∧ b < w.heap.size ∧ (∀ i, i < len → w.cell? ⟨b, o + i, none⟩ = some (.int k (zs.getD i 0))) ∧ (∀ i, i < len → (Lit.int k (zs.getD i 0)).wf = true) := by
  rcases h with ⟨_, h0, _⟩ | ⟨x, rfl, h1, h2, h3, h4, h5⟩
  · omega
  · obtain ⟨b, o, rfl, hc⟩ := ints_at h4 (by omega)
    refine ⟨b, o, rfl, block_of_cell (hc 0 (by omega)), fun i hi => hc i (by omega), fun i hi => ?_⟩
    have hi' : i < zs.length := by omega
    have : zs.getD i 0 = zs[i] := by simp [List.getD_eq_getElem?_getD, List.getElem?_eq_getElem hi']
    rw [this]
    exact h5 _ (List.getElem_mem _)

theorem IsRow.len_le {k : IntKind} {w : World} {a : Option Addr} {len cap : Nat} {zs : List Int} (h : IsRow k w a len cap zs) : len ≤ maxLen := by
  rcases h with ⟨_, h0, _⟩ | ⟨x, rfl, h1, h2, h3, h4, h5⟩
  · subst h0; exact Nat.zero_le _
  · omega


/-- Any one with no row. -/
structure QRel (w : World) (b : Nat) (wr : World) (t : Int) : Prop where
  ex : ∃ (l : Int) (m : Nat) (is : Bool), One w wr b 1 t l m is [] ∧ m < 2 ^ 32
theorem quietF_0 (t : Int) : quietF t t = 0 := by
  unfold quietF; rw [if_neg (by omega), Int.sub_self]; decide +kernel
theorem quietF_7 (t : Int) (h0 : 0 ≤ t) (h1 : t ≤ 9999) : quietF t (t + 7) = 7 := by
  unfold quietF; rw [if_neg (by omega), show t + 7 - t = 7 from by omega]; decide +kernel
theorem quietF_n (t n : Nat) (h1 : t ≤ 9999) (hn : n ≤ 19999) : quietF t n = max 0 ((n : Int) - t) := by
  unfold quietF
  by_cases h : (n : Int) < t
  · rw [if_pos h, Int.max_def]; split <;> omega
  · rw [if_neg h, Int.max_def, show wrap64 ((n : Int) - t) = (n : Int) - t from by unfold wrap64; omega]; split <;> omega
set_option maxHeartbeats 1000000 in
theorem law_LinkQuiet (a0 : Option Addr) (len0 cap0 : Nat) (z0 : List Int) (a1 : Int) (w : World) (w0 : IsRow .i64 w a0 len0 cap0 z0) (w1 : (Lit.int .i64 a1).wf = true) :
    Calls Try.prog 6 #[.slice a0 len0 cap0, .int .i64 a1] w fun e w' => e = .returned (.bool true) ∧ Below w.heap.size w w' := by
  have hel := fun h => w0.elem h
  have hle := w0.len_le
  unfold maxLen at hle
  have hU : 0 ≤ IntKind.u64.wrap a1 := by simp [IntKind.wrap, IntKind.bits, IntKind.signed]; omega
  have HU := Lib.hid hU
  clear w0 w1
  have Hel := Lib.hid hel
  clear hel
  go_enter Try.func6, Try.ntmps6
  go_wp2_with fail
  refine (one_new 0 _).mono ?_
  rintro e w1 ⟨rfl, O1⟩
  generalize hb : w.heap.size = B at O1 ⊢
  have HB := Lib.hid hb
  clear hb
  have O1 := Lib.hid O1
  go_wp2_with fail
  go_loopw [6, 7] (fun tp i wr => ∃ n t : Nat, n ≤ len0 ∧ n ≤ 30 ∧ t ≤ 9999 ∧ i = .int .i64 n ∧ tp = .int .i64 t ∧ QRel w B wr t) (fun tp i _ => 30 - (intOf i).toNat)
  case atStart => exact ⟨0, 0, by omega, by omega, by omega, rfl, rfl, ⟨0, 0, false, O1.out, by decide⟩⟩
  case round =>
    obtain ⟨n, t, hn1, hn2, ht, rfl, rfl, ⟨l, m, is, O, hm⟩⟩ := hrel
    have HO := Lib.hid O
    have HM := Lib.hid hm
    clear O hm O1
    by_cases hlt : n < len0
    · by_cases hlt2 : n < 30
      · obtain ⟨b, o, rfl, hbl, hcell, hwf⟩ := Hel.out (by omega)
        have hc := hcell n hlt
        have hx : 0 ≤ IntKind.u64.wrap (z0.getD n 0) := by simp [IntKind.wrap, IntKind.bits, IntKind.signed]; omega
        clear hcell hwf
        generalize z0.getD n 0 = x at *
        have hc' : wr.cell? ⟨b, o + n, none⟩ = some (.int .i64 x) := (HO.out.bel.cell (p := ⟨b, o + n, none⟩) (by rw [← HB.out]; exact hbl)).trans hc
        obtain ⟨k, hk⟩ : ∃ k : Nat, (k : Int) = IntKind.u64.wrap x % 10000 := ⟨(IntKind.u64.wrap x % 10000).toNat, by omega⟩
        have hk1 : k < 10000 := by omega
        have Hk := Lib.hid hk
        clear hk hc
        go_wp2_with fail
        rw [← Hk.out]
        refine (one_hear HO.out (by decide) HM.out _ _ _ _).mono ?_
        rintro e w2 ⟨rfl, O2⟩
        rw [List.filter_nil] at O2
        obtain ⟨T, hT⟩ : ∃ T : Nat, (T : Int) = max (t : Int) k := ⟨max t k, by omega⟩
        have hT1 : T ≤ 9999 := by omega
        rw [← hT] at O2
        have HT := Lib.hid hT
        have O2 := Lib.hid O2
        clear hT hc'
        go_wp2_with fail
        rw [← HT.out]
        refine (one_quiet O2.out _).mono ?_
        rintro e w' ⟨rfl, rfl⟩
        rw [quietF_0]
        go_wp2_with fail
        refine (one_quiet O2.out _).mono ?_
        rintro e w' ⟨rfl, rfl⟩
        rw [quietF_7 T (by omega) (by omega)]
        have hrel : QRel w B w2 T := ⟨_, _, _, O2.out, noteM_lt _ _ _ _ HM.out⟩
        go_wp2_with fail
        all_goals first | exact ⟨⟨n + 1, T, by omega, by omega, hT1, by go_num, rfl, hrel⟩, by simp [intOf]; omega⟩ | exact ⟨n + 1, T, by omega, by omega, hT1, by go_num, rfl, hrel⟩ | (simp [intOf]; omega) | go_roundw
      · go_wp2_with fail
        refine (told_law _).mono ?_
        rintro e w2 ⟨rfl, hB⟩
        obtain ⟨N1, hN⟩ : ∃ N1 : Nat, (N1 : Int) = IntKind.u64.wrap a1 % 20000 := ⟨(IntKind.u64.wrap a1 % 20000).toNat, by have := HU.out; omega⟩
        have hN1 : N1 < 20000 := by omega
        have HN := Lib.hid hN
        clear hN
        have O2 := Lib.hid (HO.out.below hB)
        go_wp2_with fail
        rw [← HN.out]
        refine (one_quiet O2.out _).mono ?_
        rintro e w' ⟨rfl, rfl⟩
        rw [quietF_n t N1 ht (by omega)]
        go_wp2_with fail
        go_ret
        exact ⟨rfl, by rw [HB.out]; exact O2.out.bel⟩
    · go_wp2_with fail
      refine (told_law _).mono ?_
      rintro e w2 ⟨rfl, hB⟩
      obtain ⟨N1, hN⟩ : ∃ N1 : Nat, (N1 : Int) = IntKind.u64.wrap a1 % 20000 := ⟨(IntKind.u64.wrap a1 % 20000).toNat, by have := HU.out; omega⟩
      have hN1 : N1 < 20000 := by omega
      have HN := Lib.hid hN
      clear hN
      have O2 := Lib.hid (HO.out.below hB)
      go_wp2_with fail
      rw [← HN.out]
      refine (one_quiet O2.out _).mono ?_
      rintro e w' ⟨rfl, rfl⟩
      rw [quietF_n t N1 ht (by omega)]
      go_wp2_with fail
      go_ret
      exact ⟨rfl, by rw [HB.out]; exact O2.out.bel⟩
end Go.Proofs.Ytfadaakogpbgfaa
