/-
  Queue: the Go text of QueueKnown returns true for every input.
-/
import Derived.Test.YtabgooglfgioiaaG
import Derived.IntWalk
namespace Go.Proofs.Ytabgooglfgioiaa
set_option linter.unusedVariables false
open Go.ChangeShapes Go.WideShapes Go.ChangeAt Go.RowKit

/-- A slice of whole numbers that came in: nil, or a row of cells. -/
def IsRow (k : IntKind) (w : World) (a : Option Addr) (len cap : Nat) (zs : List Int) : Prop :=
  (a = none ∧ len = 0 ∧ cap = 0 ∧ zs = []) ∨
  ∃ x, a = some x ∧ len ≤ cap ∧ cap ≤ maxLen ∧ zs.length = cap ∧ (∀ i, i < zs.length → w.cell? (x.add i) = some (.int k (zs.getD i 0))) ∧ ∀ n ∈ zs, (Lit.int k n).wf = true

theorem isRow_of {H : Type} {enc : TypeId × Value → H} {P : Program} {w : World} {t e : TypeId} {k : IntKind} {a : Option Addr} {len cap : Nat} {d : DataW H} {p : List MemPlace}
    (ht : P.underlying t = some (.slice e)) (he : P.underlying e = some (.int k)) (hc : P.cellsOf e = 1)
    (h : DataW.Trod enc P w 0 (fun _ => true) true t (.slice a len cap) d p) : ∃ zs, IsRow k w a len cap zs := by
  obtain ⟨fuel, hf⟩ := h
  rcases open_ints ht he hc hf with ⟨hcs, _⟩ | ⟨x, l, c, zs, hcs, _, hl, hm, hz, _, hcell, hwz⟩
  · simp [Value.cells] at hcs
    obtain ⟨rfl, rfl, rfl⟩ := hcs
    exact ⟨[], .inl ⟨rfl, rfl, rfl, rfl⟩⟩
  · simp [Value.cells] at hcs
    obtain ⟨rfl, rfl, rfl⟩ := hcs
    exact ⟨zs, .inr ⟨_, rfl, hl, hm, by simpa using hz, hcell, hwz⟩⟩

theorem block_of_cell {w : World} {b o : Nat} {v : Value} (h : w.cell? ⟨b, o, none⟩ = some v) : b < w.heap.size := by
  apply Classical.byContradiction
  intro hn
  have e : w.heap[b]? = none := by simp; omega
  simp [World.cell?, e] at h

/-- An element of the slice, where there is one. -/
theorem IsRow.elem {k : IntKind} {w : World} {a : Option Addr} {len cap : Nat} {zs : List Int} (h : IsRow k w a len cap zs) (hl : 0 < len) :
    ∃ b o, a = some ⟨b, o, none⟩ ∧ b < w.heap.size ∧ (∀ i, i < len → w.cell? ⟨b, o + i, none⟩ = some (.int k (zs.getD i 0))) ∧ (∀ i, i < len → (Lit.int k (zs.getD i 0)).wf = true) := by
  rcases h with ⟨_, h0, _⟩ | ⟨x, rfl, h1, h2, h3, h4, h5⟩
  · omega
  · obtain ⟨b, o, rfl, hc⟩ := ints_at h4 (by omega)
    refine ⟨b, o, rfl, block_of_cell (hc 0 (by omega)), fun i hi => hc i (by omega), fun i hi => ?_⟩
    have hi' : i < zs.length := by omega
    have : zs.getD i 0 = zs[i] := by simp [List.getD_eq_getElem?_getD, List.getElem?_eq_getElem hi']
    rw [this]
    exact h5 _ (List.getElem_mem _)

theorem IsRow.len_le {k : IntKind} {w : World} {a : Option Addr} {len cap : Nat} {zs : List Int} (h : IsRow k w a len cap zs) : len ≤ maxLen := by
  rcases h with ⟨_, h0, _⟩ | ⟨x, rfl, h1, h2, h3, h4, h5⟩
  · subst h0; exact Nat.zero_le _
  · omega

theorem bits64 (x : Int) : 0 ≤ IntKind.u64.wrap x := by simp [IntKind.wrap, IntKind.bits, IntKind.signed]; omega

def falses (n : Nat) : Array Value := (List.replicate n (Value.bool false)).toArray
theorem falses_at (n : Nat) : ∀ k, k < n → (falses n)[k]? = some (Value.bool false) := by
  intro k hk
  unfold falses
  rw [List.getElem?_toArray, List.getElem?_replicate, if_pos hk]

/-- What the loop of QueueKnown keeps. -/
def KW (w1 : World) (b M C : Nat) (i : Nat) (wr : World) : Prop :=
  ∃ g n c, n ≤ i ∧ QAt wr b M n 10 0 0 0 g ∧ BoolsAt wr C 0 64 c ∧ Near g 10 ∧ (∀ j : Nat, j < 64 → c j = (g (10 + j)).isSome) ∧ Kept (fun k => k = b ∨ k = M ∨ k = C) w1 wr

theorem Near.put {g : Int → Option Value} {f : Int} (h : Near g f) {fr : Int} (h0 : f ≤ fr) (h1 : fr ≤ f + 63) (v : Value) : Near (putG g fr v) f := by
  intro k hk
  unfold putG at hk
  split at hk
  · exact h k hk
  · unfold updM at hk
    split at hk
    · omega
    · exact h k hk
theorem putG_some {g : Int → Option Value} {fr : Int} {v : Value} (k : Int) : (putG g fr v k).isSome = ((g k).isSome || decide (k = fr)) := by
  unfold putG
  by_cases hs : (g fr).isSome
  · rw [if_pos hs]
    by_cases e : k = fr
    · subst e; simp [hs]
    · simp [e]
  · rw [if_neg hs]
    unfold updM
    by_cases e : k = fr
    · simp [e]
    · simp [e]

set_option maxHeartbeats 4000000 in
theorem law_QueueKnown (a0 : Option Addr) (len0 cap0 : Nat) (z0 : List Int) (w : World) (w0 : IsRow .i64 w a0 len0 cap0 z0) :
    Calls Try.prog 4 #[.slice a0 len0 cap0] w fun e w' => e = .returned (.bool true) ∧ Below w.heap.size w w' := by
  have hel := fun h => w0.elem h
  have hle := w0.len_le
  unfold maxLen at hle
  clear w0
  have Hel := Lib.hid hel
  clear hel
  obtain ⟨s, hs⟩ : ∃ s, w.heap.size = s := ⟨_, rfl⟩
  have HS := Lib.hid hs
  go_enter Try.func4, Try.ntmps4
  go_wp2_with fail
  refine (new_any 10 0 0 0 _).mono ?_
  rintro e w1 ⟨b, M, rfl, hq1, hb, hM, hB1⟩
  rw [hs] at hb hM hB1
  clear hs
  go_wp2_with fail
  generalize hw2 : w1.alloc _ = w2
  have hbo : BoolsAt w2 w1.heap.size 0 64 (fun _ => false) := by
    rw [← hw2]
    exact boolsAt_new w1 _ 37 64 (fun k hk => falses_at 64 k hk)
  have hA : Below w1.heap.size w1 w2 := by rw [← hw2]; exact below_alloc _ _
  clear hw2
  have hbs := cell_lt hq1.c0
  have hMs := hq1.map.lt
  have hq2 := hq1.below hA
  obtain ⟨C, hC⟩ : ∃ C, w1.heap.size = C := ⟨_, rfl⟩
  rw [hC] at hbo hbs hMs hA ⊢
  have hB2 : Below s w w2 := hB1.trans (hA.mono (by omega))
  have hCs := hbo.lt (by omega)
  clear hA hB1 hq1 hC
  have hK0 : KW w2 b M C 0 w2 := ⟨_, 0, _, Nat.le_refl _, hq2, hbo, (fun k hk => by cases hk), (fun j hj => rfl), Kept.refl _ _⟩
  have HK0 := Lib.hid hK0
  have HB2 := Lib.hid hB2
  have hqs := hq2.map.lt
  have hne := hq2.ne
  clear hq2 hbo hK0 hB2
  go_loopw [5] (fun s5 wr => ∃ i : Nat, i ≤ len0 ∧ i ≤ 60 ∧ s5 = .int .i64 i ∧ KW w2 b M C i wr) (fun s5 _ => 60 - (intOf s5).toNat)
  case atStart => exact ⟨0, by omega, by omega, rfl, HK0.out⟩
  case round =>
    obtain ⟨i, hi1, hi2, rfl, g, n, c, hn, hq, hbo, hnr, hcg, hK⟩ := hrel
    have HCG := Lib.hid hcg
    have HNR := Lib.hid hnr
    clear hcg hnr
    by_cases hlt : i < len0 ∧ i < 60
    · obtain ⟨hlt, hlt2⟩ := hlt
      obtain ⟨lb, lo, rfl, hbl, hcell, hwf⟩ := Hel.out (by omega)
      rw [HS.out] at hbl
      have hx := hcell i hlt
      clear hwf hcell
      generalize z0.getD i 0 = x at *
      have hx' : wr.cell? ⟨lb, lo + i, none⟩ = some (.int .i64 x) := (hK.cell (p := ⟨lb, lo + i, none⟩) (by simp; omega) (by simp; omega)).trans ((HB2.out.cell (p := ⟨lb, lo + i, none⟩) (by exact hbl)).trans hx)
      have hx0 := bits64 x
      obtain ⟨k, hk⟩ : ∃ k : Nat, (k : Int) = IntKind.u64.wrap x % 64 := ⟨(IntKind.u64.wrap x % 64).toNat, by omega⟩
      have hk1 : k < 64 := by omega
      have Hk := Lib.hid hk
      clear hk hx
      go_wp2_with fail
      rw [← Hk.out]
      have ck := hbo.cell k hk1
      have fk := hbo.frozen k hk1
      rw [Nat.zero_add] at ck fk
      have hgk : (g (10 + (k : Int))).isSome = c k := (HCG.out k hk1).symm
      have HGK := Lib.hid hgk
      have HBO := Lib.hid hbo
      have HQ := Lib.hid hq
      have HK := Lib.hid hK
      have HX := Lib.hid hx'
      clear hgk hbo hq hK hx'
      obtain ⟨v, hv⟩ : ∃ v, c k = v := ⟨_, rfl⟩
      have HV := Lib.hid hv
      rw [hv] at ck
      clear hv
      obtain ⟨g', hg'⟩ : ∃ g', putG g (10 + (k : Int)) (inV 0 0 1) = g' := ⟨_, rfl⟩
      have HG' := Lib.hid hg'
      clear hg'
      have HP := Lib.hid (put_near b M n 10 0 0 0 g (10 + (k : Int)) 0 0 1 wr.drew HQ.out.drew (by omega) (by omega) (by omega) (by omega) (by omega) (by omega))
      have hCb : ¬ C = b := by omega
      have hCM : ¬ C = M := by omega
      have hk0 : (0 : Int) ≤ k := by omega
      have hk64 : (k : Int) < 64 := by omega
      have hwr : IntKind.i64.wrap (10 + (k : Int)) = 10 + (k : Int) := IntWalk.i64_in _ (by omega)
      go_region_held3 (fun w' => w'.cell? ⟨C, k, none⟩ = some (.bool v)) (go_keep) (
          (go_at_call 10; refine HP.out.mono ?_; rintro e w3 ⟨rfl, h3, k3⟩; rw [HGK.out, HV.out]; have H3 := Lib.hid h3; have K3 := Lib.hid k3; replace ck := (((Kept.refl _ _).drew.trans k3).cell (p := ⟨C, k, none⟩) hCM (cell_lt ck)).trans ck; replace fk := (((Kept.refl _ _).drew.trans k3).frozen (p := ⟨C, k, none⟩) hCM (HBO.out.lt (Nat.succ_pos _))).trans fk; clear h3 k3))
      clear hwr
      have hc' : ∀ j : Nat, j < 64 → upd c k true j = (g' (10 + j)).isSome := fun j hj => by
        rw [← HG'.out, putG_some, ← HCG.out j hj]
        unfold upd
        by_cases e : j = k
        · subst e; simp
        · rw [if_neg e]
          have : ¬ (10 + (j : Int) = 10 + (k : Int)) := by omega
          simp [this]
      have hnear' : Near g' 10 := by rw [← HG'.out]; exact HNR.out.put (by omega) (by omega) _
      obtain ⟨N, hN, hG⟩ := gap_ex g' 10 (fun j hj => by
        cases e : g' (10 + (j : Int)) with
        | none => rfl
        | some u => have := hnear' _ (by rw [e]; rfl); omega)
      have K13 : Kept (fun k => k = b ∨ k = M ∨ k = C) w2 w3 := (HK.out.trans ((Kept.refl _ _).drew)).trans (K3.out.mono (fun k hk => Or.inr (Or.inl hk)))
      have hbo3 : BoolsAt w3 C 0 64 c := (HBO.out.block (((Kept.refl (fun k => k = M) wr).drew.trans K3.out).block C (HBO.out.lt (by omega)) hCM))
      have K14 := Lib.hid (K13.setCell (p := ⟨C, k, none⟩) (Or.inl (Or.inr (Or.inr rfl))) (.bool true))
      have hbo4 := hbo3.set k hk1 true
      rw [Nat.zero_add] at hbo4
      have hq3 := H3.out
      rw [HG'.out] at hq3
      have hq4 := hq3.kept ((Kept.refl (fun k => k = C) w3).setCell (p := ⟨C, k, none⟩) (Or.inl rfl) (.bool true)) (by omega) (by omega)
      have HC' := Lib.hid hc'
      have HNear := Lib.hid hnear'
      have HGap := Lib.hid hG
      have HBO4 := Lib.hid hbo4
      have HQ4 := Lib.hid hq4
      clear hc' hnear' hG K13 hbo3 hbo4 hq3 hq4 HBO HQ HK HX H3 K3 HP HGK HCG HNR HG'
      cases v
      all_goals
        go_wp2_with fail
        generalize (w3.setCell ⟨C, k, none⟩ (.bool true)) = w4 at K14 HBO4 HQ4 ⊢
        clear ck fk
        go_loop [7] (fun s7 => ∃ m : Nat, m ≤ N ∧ s7 = .int .i64 m) (fun s7 => N - (intOf s7).toNat)
        case atStart => exact ⟨0, by omega, rfl⟩
        case round =>
          obtain ⟨m, hm, rfl⟩ := hrel
          by_cases hmN : m < N
          · have cm := HBO4.out.cell m (by omega)
            rw [HC'.out m (by omega), HGap.out.1 m hmN, Nat.zero_add] at cm
            go_wp2
            all_goals first | exact ⟨⟨m + 1, by omega, by go_num⟩, by simp [intOf]; omega⟩ | go_round
          · obtain rfl : m = N := by omega
            by_cases hm64 : m < 64
            · have cm := HBO4.out.cell m hm64
              rw [HC'.out m hm64, HGap.out.2, Nat.zero_add] at cm
              go_wp2_with fail
              refine (known_any b M _ 10 0 0 0 g' _ HQ4.out (by omega) (by omega) m hN HGap.out).mono ?_
              rintro e w5 ⟨rfl, hA⟩
              have hrel : KW w2 b M C (i + 1) w5 := ⟨g', n + 1, _, by omega, HQ4.out.below hA, HBO4.out.block (hA.block C (HBO4.out.lt (by omega))), HNear.out, HC'.out, K14.out.trans (Kept.of_below hA)⟩
              have HR := Lib.hid hrel
              clear hrel hA
              go_wp2_with fail
              all_goals first | exact ⟨⟨i + 1, by omega, by omega, by go_num, HR.out⟩, by simp [intOf]; omega⟩ | exact ⟨i + 1, by omega, by omega, by go_num, HR.out⟩ | (simp [intOf]; omega) | go_roundw
            · obtain rfl : m = 64 := by omega
              go_wp2_with fail
              refine (known_any b M _ 10 0 0 0 g' _ HQ4.out (by omega) (by omega) 64 hN HGap.out).mono ?_
              rintro e w5 ⟨rfl, hA⟩
              have hrel : KW w2 b M C (i + 1) w5 := ⟨g', n + 1, _, by omega, HQ4.out.below hA, HBO4.out.block (hA.block C (HBO4.out.lt (by omega))), HNear.out, HC'.out, K14.out.trans (Kept.of_below hA)⟩
              have HR := Lib.hid hrel
              clear hrel hA
              go_wp2_with fail
              all_goals first | exact ⟨⟨i + 1, by omega, by omega, by go_num, HR.out⟩, by simp [intOf]; omega⟩ | exact ⟨i + 1, by omega, by omega, by go_num, HR.out⟩ | (simp [intOf]; omega) | go_roundw
    · have hB5 : Below s w wr := HB2.out.trans (hK.below (B := s) (fun k hk => by omega) (by omega))
      have hd : decide ((i : Int) < len0 ) = true → decide ((i : Int) < 60) = false := by
        intro h
        simp at h ⊢
        omega
      have HQ := Lib.hid hq
      have HB5 := Lib.hid hB5
      clear hq hbo hK hB5
      by_cases hl : i < len0
      · have h60 : decide ((i : Int) < 60) = false := hd (by simpa using hl)
        clear hlt hd
        go_wp2_with fail
        refine (told_law _).mono ?_
        rintro e w6 ⟨rfl, hA⟩
        have c0 := (HQ.out.below hA).c0
        go_wp2_with fail
        refine (from_any b 10 _ c0).mono ?_
        rintro e w' ⟨rfl, rfl⟩
        go_wp2_with fail
        go_ret
        exact ⟨rfl, by rw [HS.out]; exact HB5.out.trans (hA.mono (by have := HB5.out.size; have := HS.out; omega))⟩
      · clear hlt hd
        go_wp2_with fail
        refine (told_law _).mono ?_
        rintro e w6 ⟨rfl, hA⟩
        have c0 := (HQ.out.below hA).c0
        go_wp2_with fail
        refine (from_any b 10 _ c0).mono ?_
        rintro e w' ⟨rfl, rfl⟩
        go_wp2_with fail
        go_ret
        exact ⟨rfl, by rw [HS.out]; exact HB5.out.trans (hA.mono (by have := HB5.out.size; have := HS.out; omega))⟩
end Go.Proofs.Ytabgooglfgioiaa
