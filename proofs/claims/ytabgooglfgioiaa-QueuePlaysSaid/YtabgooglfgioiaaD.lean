/-
  Queue: the contracts of Done, Known and New.
-/
import Derived.Test.YtabgooglfgioiaaC
namespace Go.Proofs.Ytabgooglfgioiaa
set_option linter.unusedVariables false
open Go.ChangeShapes Go.WideShapes Go.ChangeAt Go.RowKit

theorem QAt.setF {w : World} {b M n : Nat} {f x y z : Int} {g : Int → Option Value} (h : QAt w b M n f x y z g) (f' : Int) : QAt (w.setCell ⟨b, 0, none⟩ (.int .i64 f')) b M n f' x y z g := by
  obtain ⟨c0, c1, c2, c3, c4, f0, f1, f2, f3, f4, hm, hne, hv⟩ := h
  refine ⟨?_, ?_, ?_, ?_, ?_, ?_, ?_, ?_, ?_, ?_, hm.block (Below.heap_setCell _ _ _ _ (by simpa using hne.symm)), hne, hv⟩ <;> go_simp
theorem QAt.setIn {w : World} {b M n : Nat} {f x y z : Int} {g : Int → Option Value} (h : QAt w b M n f x y z g) (i j k : Int) : QAt (((w.setCell ⟨b, 1, none⟩ (.int .i8 i)).setCell ⟨b, 2, none⟩ (.int .i8 j)).setCell ⟨b, 3, none⟩ (.int .u8 k)) b M n f i j k g := by
  obtain ⟨c0, c1, c2, c3, c4, f0, f1, f2, f3, f4, hm, hne, hv⟩ := h
  refine ⟨?_, ?_, ?_, ?_, ?_, ?_, ?_, ?_, ?_, ?_, ?_, hne, hv⟩
  rotate_right 1
  · refine ((hm.block (Below.heap_setCell _ _ _ _ (by simpa using hne.symm))).block (Below.heap_setCell _ _ _ _ (by simpa using hne.symm))).block (Below.heap_setCell _ _ _ _ (by simpa using hne.symm))
  all_goals go_simp

set_option maxHeartbeats 1000000 in
theorem done_any (b M n : Nat) (f x y z : Int) (g : Int → Option Value) (i j k : Int) (w : World) (h : QAt w b M n f x y z g) (f0 : 0 ≤ f) (f1 : f ≤ 1000000) :
    Calls Try.prog 15 #[.pointer (some ⟨b, 0, none⟩), .agg #[.int .i8 i, .int .i8 j, .int .u8 k]] w fun e w' => e = .returned (.tuple #[]) ∧ QAt w' b M n (f + 1) i j k (updM g f none) ∧ Kept (fun k => k = b ∨ k = M) w w' := by
  have c0 := h.c0
  have c4 := h.c4
  have hb := cell_lt c0
  go_enter Try.func15, Try.ntmps15
  go_wp2
  refine region_tail 8 (by kernel_rfl) (by kernel_rfl) ?_
  have hk := ((Kept.refl (fun k => k = b ∨ k = M) w).alloc (Obj.cells #[.int .i8 i, .int .i8 j, .int .u8 k] 24) |>.drew)
  have hk0 := ((Kept.refl (fun _ => False) w).alloc (Obj.cells #[.int .i8 i, .int .i8 j, .int .u8 k] 24) |>.drew)
  obtain ⟨b0, b1, b2⟩ : (w.alloc (Obj.cells #[.int .i8 i, .int .i8 j, .int .u8 k] 24)).drew.cell? ⟨w.heap.size, 0, none⟩ = some (.int .i8 i) ∧ (w.alloc (Obj.cells #[.int .i8 i, .int .i8 j, .int .u8 k] 24)).drew.cell? ⟨w.heap.size, 1, none⟩ = some (.int .i8 j) ∧ (w.alloc (Obj.cells #[.int .i8 i, .int .i8 j, .int .u8 k] 24)).drew.cell? ⟨w.heap.size, 2, none⟩ = some (.int .u8 k) := by
    refine ⟨?_, ?_, ?_⟩ <;> go_simp
  have hM := h.map.lt
  generalize (World.drew _) = w2 at hk hk0 b0 b1 b2 ⊢
  have hq := h.kept hk0 (by simp) (by simp)
  have d0 := hq.c0
  have d4 := hq.c4
  obtain ⟨B, hB⟩ : ∃ B, B = w.heap.size := ⟨_, rfl⟩
  rw [← hB] at b0 b1 b2 hb hM ⊢
  have hbB : b ≠ B := by omega
  have hBb : B ≠ b := by omega
  have hMB : M ≠ B := by omega
  have hBM : B ≠ M := by omega
  have HB := Lib.hid hB
  clear c0 c4 hb hM h hB
  simp only [List.take_succ_cons, List.take_zero, List.drop_succ_cons, List.drop_zero]
  repeat still_step
  refine wpStill_nil ?_
  refine wpList_drop_map rfl _ _ rfl hq.map f (wf64_of (by omega) (by omega)) rfl rfl ?_
  intro W' hm' hgr
  have hq' := hq.only hgr hm' (hq.vals.del f)
  have hK' := (hk.grown hgr (Or.inl (Or.inr rfl)))
  have hB2 := cell_lt b0
  have eB := hgr.block B hB2 (by simpa using hBM)
  replace b0 := (World.cell?_of_block (w := w2) (w' := W') (a := ⟨B, 0, none⟩) eB).trans b0
  replace b1 := (World.cell?_of_block (w := w2) (w' := W') (a := ⟨B, 1, none⟩) eB).trans b1
  replace b2 := (World.cell?_of_block (w := w2) (w' := W') (a := ⟨B, 2, none⟩) eB).trans b2
  have hfin := And.intro ((hq'.setF (f + 1)).setIn i j k) ((((hK'.setCell (p := ⟨b, 0, none⟩) (Or.inl (Or.inl rfl)) (.int .i64 (f + 1))).setCell (p := ⟨b, 1, none⟩) (Or.inl (Or.inl rfl)) (.int .i8 i)).setCell (p := ⟨b, 2, none⟩) (Or.inl (Or.inl rfl)) (.int .i8 j)).setCell (p := ⟨b, 3, none⟩) (Or.inl (Or.inl rfl)) (.int .u8 k))
  have HF := Lib.hid hfin
  obtain ⟨d0, d1, d2, d3, d4, e0, e1, e2, e3, e4, -, -, -⟩ := hq'
  clear hfin hm' hgr hq hk hk0 hK' eB
  go_wp2
  go_end0
  exact ⟨rfl, HF.out⟩

/-- So many are known one behind the other. -/
def Gap (g : Int → Option Value) (f : Int) (N : Nat) : Prop := (∀ j : Nat, j < N → (g (f + j)).isSome = true) ∧ (g (f + N)).isSome = false
theorem gap_ex (g : Int → Option Value) (f : Int) (h : ∀ j : Nat, 64 ≤ j → g (f + j) = none) : ∃ N, N ≤ 64 ∧ Gap g f N := by
  have key : ∀ d k : Nat, k + d = 64 → (∀ j : Nat, j < k → (g (f + j)).isSome = true) → ∃ N, N ≤ 64 ∧ Gap g f N := by
    intro d
    induction d with
    | zero => intro k hk hj; exact ⟨k, by omega, hj, by rw [h k (by omega)]; rfl⟩
    | succ d ih =>
      intro k hk hj
      cases hg : (g (f + k)).isSome with
      | false => exact ⟨k, by omega, hj, hg⟩
      | true => exact ih (k + 1) (by omega) (fun j hj' => by
          by_cases e : j = k
          · subst e; exact hg
          · exact hj j (by omega))
  exact key 64 0 (by omega) (fun j hj => by omega)

def KnRel (w : World) (N : Nat) (s3 s4 s5 : Value) (wr : World) : Prop :=
  ∃ (k B : Nat) (i j l : Int), k ≤ N ∧ s3 = .int .i64 k ∧ s4 = .pointer (some ⟨B, 0, none⟩) ∧ s5 = .bool (decide (k < N)) ∧ wr.cell? ⟨B, 0, none⟩ = some (.int .i8 i) ∧ wr.cell? ⟨B, 1, none⟩ = some (.int .i8 j) ∧ wr.cell? ⟨B, 2, none⟩ = some (.int .u8 l) ∧ Kept (fun _ => False) w wr

set_option maxHeartbeats 2000000 in
theorem known_any (b M n : Nat) (f x y z : Int) (g : Int → Option Value) (w : World) (h : QAt w b M n f x y z g) (f0 : 0 ≤ f) (f1 : f ≤ 1000000) (N : Nat) (hN : N ≤ 64) (hG : Gap g f N) :
    Calls Try.prog 11 #[.pointer (some ⟨b, 0, none⟩)] w fun e w' => e = .returned (.int .i64 N) ∧ Below w.heap.size w w' := by
  have c0 := h.c0
  have c4 := h.c4
  have hb := cell_lt c0
  have hM := h.map.lt
  have HG := Lib.hid hG
  have H := Lib.hid h
  clear hG h
  go_enter Try.func11, Try.ntmps11
  go_wp2
  have hl := H.out.map.looks (x := f) (wf64_of (by omega) (by omega))
  obtain ⟨i, j, l, hv⟩ : ∃ i j l, (g f).getD (.agg #[.int .i8 0, .int .i8 0, .int .u8 0]) = inV i j l := by
    cases hg : g f with
    | none => exact ⟨0, 0, 0, rfl⟩
    | some v => exact H.out.vals f v hg
  have hs : (g f).isSome = decide (0 < N) := by
    cases N with
    | zero => have := HG.out.2; simpa using this
    | succ N => have := HG.out.1 0 (by omega); simpa using this
  rw [hv, hs] at hl
  unfold inV at hl
  have hl1 := hl w.drew rfl
  have hl2 := hl (w.alloc (Obj.cells #[.int .i8 0, .int .i8 0, .int .u8 0] 24)).drew (Below.heap_alloc _ _ _ hM)
  clear hv hs hl
  go_region
  all_goals
    clear hl1 hl2
    go_wp2
    have hr0 : KnRel w N (.int .i64 (0 : Nat)) (.pointer (some ⟨w.heap.size, 0, none⟩)) (.bool (decide (0 < N))) (w.alloc (Obj.cells #[.int .i8 i, .int .i8 j, .int .u8 l] 24)).drew :=
      ⟨0, w.heap.size, i, j, l, by omega, rfl, rfl, rfl, by go_simp, by go_simp, by go_simp, (Kept.refl _ _).alloc _ |>.drew⟩
    have HR0 := Lib.hid hr0
    clear hr0
    generalize hw2 : (w.alloc (Obj.cells #[.int .i8 i, .int .i8 j, .int .u8 l] 24)).drew = w2 at HR0 ⊢
    clear hw2
    go_loopw [3, 4, 5] (fun s3 s4 s5 wr => KnRel w N s3 s4 s5 wr) (fun s3 _ _ _ => N - (intOf s3).toNat)
    case atStart => exact HR0.out
    case round =>
      clear HR0
      obtain ⟨k, B, i, j, l, hk, rfl, rfl, rfl, b0, b1, b2, hK⟩ := hrel
      have hq := H.out.kept hK (by simp) (by simp)
      by_cases hlt : k < N
      · have hd : decide (k < N) = true := by simpa using hlt
        have d0 := hq.c0
        have d4 := hq.c4
        have hbs := cell_lt d0
        have hl := hq.map.looks (x := f + ((k : Int) + 1)) (wf64_of (by omega) (by omega))
        obtain ⟨v, hv⟩ : ∃ v, (g (f + ((k : Int) + 1))).getD (.agg #[.int .i8 0, .int .i8 0, .int .u8 0]) = v := ⟨_, rfl⟩
        have hs : (g (f + ((k : Int) + 1))).isSome = decide (k + 1 < N) := by
          by_cases e : k + 1 < N
          · have := HG.out.1 (k + 1) e; push_cast at this; rw [this]; simp [e]
          · obtain rfl : N = k + 1 := by omega
            have := HG.out.2; push_cast at this; rw [this]; simp
        rw [hv, hs] at hl
        have hl1 := hl (wr.alloc (Obj.cells #[.int .i8 i, .int .i8 j, .int .u8 l] 24)).drew (Below.heap_alloc _ _ _ hq.map.lt)
        have hr : KnRel w N (.int .i64 ((k + 1 : Nat) : Int)) (.pointer (some ⟨wr.heap.size, 0, none⟩)) (.bool (decide (k + 1 < N))) (wr.alloc (Obj.cells #[.int .i8 i, .int .i8 j, .int .u8 l] 24)).drew :=
          ⟨k + 1, wr.heap.size, i, j, l, by omega, rfl, rfl, rfl, by go_simp, by go_simp, by go_simp, hK.alloc _ |>.drew⟩
        have HR := Lib.hid hr
        clear hs hv hl hr hq hK
        go_wp2
        go_region
        go_wp2
        all_goals first | exact ⟨HR.out, by simp [intOf]; omega⟩ | go_roundw
      · have hd : decide (k < N) = false := by simpa using hlt
        obtain rfl : k = N := by omega
        have hB : Below w.heap.size w wr := hK.below (fun _ h => h.elim) (Nat.le_refl _)
        clear hq hK
        go_wp2
        go_ret
        exact ⟨rfl, hB⟩
end Go.Proofs.Ytabgooglfgioiaa
