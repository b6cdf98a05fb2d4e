/-
  Entry: slices.EqualFunc of entries; Front.
-/
import Derived.Test.YtembppihfcclcaaE0
namespace Go.Proofs.Ytembppihfcclcaa
set_option linter.unusedVariables false
open Go.ChangeShapes Go.WideShapes Go.ChangeAt Go.RowKit

structure Ent where
  fr : Int
  n : Nat
  E : Nat → Nat → Int
  I : Nat → Int
def sameD (x y : Ent) : Bool := sameB x.fr x.n x.E x.I y.fr y.n y.E y.I
def entsEq (D D' : Nat → Ent) : Nat → Bool
  | 0 => true
  | n + 1 => entsEq D D' n && sameD (D n) (D' n)
theorem entsEq_mono (D D' : Nat → Ent) (n m : Nat) (h : n ≤ m) (hb : entsEq D D' n = false) : entsEq D D' m = false := by
  induction m with
  | zero => have : n = 0 := by omega
            subst this; exact hb
  | succ m ih =>
    by_cases e : n = m + 1
    · subst e; exact hb
    · unfold entsEq; rw [ih (by omega), Bool.false_and]
/-- A row of entries, in memory. -/
def EntsAt (w : World) (b o n : Nat) (D : Nat → Ent) : Prop := ∀ i, i < n → ∃ sv, EntAt w b (o + i * 26) (D i).fr sv (D i).I ∧ EvsV w sv (D i).n (D i).E
def EntsV (w : World) (v : Value) (n : Nat) (D : Nat → Ent) : Prop :=
  ∃ a cap, v = .slice a n cap ∧ n ≤ cap ∧ cap ≤ maxLen ∧ (0 < n → ∃ b o, a = some ⟨b, o, none⟩ ∧ b < w.heap.size ∧ EntsAt w b o n D)
theorem EntsAt.below {w w' : World} {b o n : Nat} {D : Nat → Ent} {B : Nat} (h : EntsAt w b o n D) (hb : Below B w w') (hs : w.heap.size ≤ B) : EntsAt w' b o n D := fun i hi => by
  obtain ⟨sv, h1, h2⟩ := h i hi
  exact ⟨sv, h1.block (hb.block b (by have := h1.lt; omega)), h2.below hb hs⟩
theorem EntsV.below {w w' : World} {v : Value} {n : Nat} {D : Nat → Ent} {B : Nat} (h : EntsV w v n D) (hb : Below B w w') (hs : w.heap.size ≤ B) : EntsV w' v n D := by
  obtain ⟨a, cap, rfl, h1, h2, h3⟩ := h
  refine ⟨a, cap, rfl, h1, h2, fun hn => ?_⟩
  obtain ⟨b, o, rfl, hlt, he⟩ := h3 hn
  have := hb.size
  exact ⟨b, o, rfl, by omega, he.below hb hs⟩
set_option maxHeartbeats 2000000 in
theorem eqFunc_any (n n' : Nat) (D D' : Nat → Ent) (v v' : Value) (w : World) (h : EntsV w v n D) (h' : EntsV w v' n' D') :
    Calls Try.prog 51 #[v, v', .func (.func 52) #[] #[]] w fun e w' => e = .returned (.bool (decide (n = n') && entsEq D D' n)) ∧ Below w.heap.size w w' := by
  obtain ⟨a, cap, rfl, hnc, hcm, hev⟩ := h
  obtain ⟨a', cap', rfl, hnc', hcm', hev'⟩ := h'
  unfold maxLen at hcm hcm'
  by_cases hnn : n = n'
  · subst hnn
    have bnn : ((n : Int) == (n : Int)) = true := by simp
    rw [decide_eq_true rfl, Bool.true_and]
    have HEV := Lib.hid hev
    have HEV' := Lib.hid hev'
    clear hev hev'
    go_enter Try.func51, Try.ntmps51
    go_wp2_with fail
    go_loopw [17] (fun i wr => ∃ k : Nat, k ≤ n ∧ i = .int .i64 k ∧ entsEq D D' k = true ∧ Below w.heap.size w wr) (fun i _ => n - (intOf i).toNat)
    case atStart => exact ⟨0, by omega, rfl, rfl, Below.refl _ _⟩
    case round =>
      obtain ⟨k, hk, rfl, hok, hB⟩ := hrel
      have HB := Lib.hid hB
      have HOK := Lib.hid hok
      clear hok
      by_cases hlt : k < n
      · obtain ⟨b, o, rfl, hbl, hin⟩ := HEV.out (by omega)
        obtain ⟨b', o', rfl, hbl', hin'⟩ := HEV'.out (by omega)
        obtain ⟨sv, he, hs⟩ := (hin.below hB (Nat.le_refl _)) k hlt
        obtain ⟨sv', he', hs'⟩ := (hin'.below hB (Nat.le_refl _)) k hlt
        have hki : (k : Int) < (n : Int) := by omega
        have HN : Hid (entsEq D D' (k + 1) = (entsEq D D' k && sameD (D k) (D' k))) := Lib.hid rfl
        have HMono := Lib.hid (entsEq_mono D D' (k + 1) n (by omega))
        have HE := Lib.hid he
        have HE' := Lib.hid he'
        have HS := Lib.hid hs
        have HS' := Lib.hid hs'
        clear hB he he' hs hs' hin hin'
        generalize D k = x at *
        generalize D' k = y at *
        have o1 := HS.out.one x.fr x.I
        have o2 := HS'.out.one y.fr y.I
        have st1 := store_ent x.fr sv x.I o1 wr _ rfl
        have st2 := store_ent y.fr sv' y.I o2 (wr.alloc (Obj.cells (entL x.fr sv x.I).toArray 37)) (wr.heap.size + 1) (by simp)
        have HX := Lib.hid (((entAt_new x.fr sv x.I 37 wr).block (Below.heap_alloc _ (Obj.cells (entL y.fr sv' y.I).toArray 37) _ (by simp))))
        have HY : Hid (EntAt ((wr.alloc (Obj.cells (entL x.fr sv x.I).toArray 37)).alloc (Obj.cells (entL y.fr sv' y.I).toArray 37)) (wr.heap.size + 1) 0 y.fr sv' y.I) := Lib.hid (by have := entAt_new y.fr sv' y.I 37 (wr.alloc (Obj.cells (entL x.fr sv x.I).toArray 37)); simpa using this)
        have HE2 := Lib.hid (HE'.out.block (Below.heap_alloc wr (Obj.cells (entL x.fr sv x.I).toArray 37) b' HE'.out.lt))
        have HBB := Lib.hid (HB.out.alloc HB.out.size (Obj.cells (entL x.fr sv x.I).toArray 37))
        have HB2 := Lib.hid (HBB.out.alloc HBB.out.size (Obj.cells (entL y.fr sv' y.I).toArray 37))
        have HBW := Lib.hid (((Below.refl wr.heap.size wr).alloc (Nat.le_refl _) (Obj.cells (entL x.fr sv x.I).toArray 37)).alloc (by simp) (Obj.cells (entL y.fr sv' y.I).toArray 37))
        clear o1 o2
        go_wp2_with (first | (refine wpList_load_g (by rfl) 37 _ rfl b (o + k * 26) rfl _ _ HE.out.range Try.underlying37 rfl (size_ent _ _ _) ?_) | (refine wpList_load_g (by rfl) 37 _ rfl b' (o' + k * 26) rfl _ _ HE2.out.range Try.underlying37 rfl (size_ent _ _ _) ?_) | (refine wpList_load_g (by rfl) 37 _ rfl wr.heap.size 0 rfl _ _ HX.out.range Try.underlying37 rfl (size_ent _ _ _) ?_) | (refine wpList_load_g (by rfl) 37 _ rfl (wr.heap.size + 1) 0 rfl _ _ HY.out.range Try.underlying37 rfl (size_ent _ _ _) ?_))
        refine (same_any x.fr sv x.n x.E x.I y.fr sv' y.n y.E y.I _ (HS.out.below HBW.out (Nat.le_refl _)) (HS'.out.below HBW.out (Nat.le_refl _))).mono ?_
        rintro e w2 ⟨rfl, hb2⟩
        have HB3 := Lib.hid (HB2.out.trans (hb2.mono HB2.out.size))
        clear hb2 st1 st2 HX HY HE2 HBB HBW HB HE HE' HS HS' HB2
        have hsd : sameD x y = sameB x.fr x.n x.E x.I y.fr y.n y.E y.I := rfl
        rw [← hsd]
        clear hsd
        cases hs : sameD x y with
        | true =>
          have hrel : entsEq D D' (k + 1) = true := by rw [HN.out, HOK.out, hs]; rfl
          have HRel := Lib.hid hrel
          clear hs hrel HN
          go_wp2_with fail
          all_goals first | exact ⟨⟨k + 1, by omega, by go_num, HRel.out, HB3.out⟩, by simp [intOf]; omega⟩ | exact ⟨k + 1, by omega, by go_num, HRel.out, HB3.out⟩ | (simp [intOf]; omega) | go_roundw
        | false =>
          have hrel : entsEq D D' (k + 1) = false := by rw [HN.out, HOK.out, hs]; rfl
          have HRel := Lib.hid (HMono.out hrel)
          clear hs hrel HN
          go_wp2_with fail
          go_ret
          exact ⟨by rw [HRel.out]; rfl, HB3.out⟩
      · obtain rfl : k = n := by omega
        go_wp2_with fail
        go_ret
        exact ⟨by rw [HOK.out]; rfl, hB⟩
  · have bnn : ((n : Int) == (n' : Int)) = false := by rw [beq_eq_false_iff_ne]; omega
    rw [decide_eq_false hnn, Bool.false_and]
    clear hev hev'
    go_enter Try.func51, Try.ntmps51
    go_wp2_with fail
    go_ret
    exact ⟨rfl, Below.refl _ _⟩
end Go.Proofs.Ytembppihfcclcaa
