/-
  Queue: the few examples are told.
-/
import Derived.Test.YtabgooglfgioiaaF
import Derived.Deep.RegionHeld3
namespace Go.Proofs.Ytabgooglfgioiaa
set_option linter.unusedVariables false
open Go.ChangeShapes Go.WideShapes Go.ChangeAt Go.RowKit

theorem at_any (b M n : Nat) (f x y z : Int) (g : Int → Option Value) (fr : Int) (w : World) (h : QAt w b M n f x y z g) (hN : Near g f) (f0 : 0 ≤ f) (f1 : f ≤ 1000000) (h0 : -9223372036854775808 ≤ fr) (h1 : fr ≤ 9223372036854775807) (v : Value) (is : Bool) (hv : atV g f (inV x y z) fr = v) (hi : (g fr).isSome = is) :
    Calls Try.prog 9 #[.pointer (some ⟨b, 0, none⟩), .int .i64 fr] w fun e w' => e = .returned (.tuple #[v, .bool is]) ∧ Below w.heap.size w w' := by
  subst hv hi
  cases hg : g fr with
  | some v => exact at_1 b M n f x y z g fr w h hN h0 h1 v hg
  | none =>
    by_cases hf : fr < f
    · exact at_2 b M n f x y z g fr w h h0 h1 hg hf
    · exact at_3 b M n f x y z g fr w h f0 f1 h0 h1 hg (by omega)

/-- An input in memory. -/
structure InAt (w : World) (b : Nat) (i j l : Int) : Prop where
  c0 : w.cell? ⟨b, 0, none⟩ = some (.int .i8 i)
  c1 : w.cell? ⟨b, 1, none⟩ = some (.int .i8 j)
  c2 : w.cell? ⟨b, 2, none⟩ = some (.int .u8 l)
theorem InAt.block {w w' : World} {b : Nat} {i j l : Int} (h : InAt w b i j l) (e : w'.heap[b]? = w.heap[b]?) : InAt w' b i j l :=
  ⟨(World.cell?_of_block (a := ⟨b, 0, none⟩) e).trans h.c0, (World.cell?_of_block (a := ⟨b, 1, none⟩) e).trans h.c1, (World.cell?_of_block (a := ⟨b, 2, none⟩) e).trans h.c2⟩
theorem InAt.lt {w : World} {b : Nat} {i j l : Int} (h : InAt w b i j l) : b < w.heap.size := cell_lt h.c0
theorem InAt.below {w w' : World} {b : Nat} {i j l : Int} (h : InAt w b i j l) (k : Below w.heap.size w w') : InAt w' b i j l := h.block (k.block b h.lt)
theorem InAt.kept {w w' : World} {b : Nat} {i j l : Int} {S : Nat → Prop} (h : InAt w b i j l) (k : Kept S w w') (hb : ¬ S b) : InAt w' b i j l := h.block (k.block b h.lt hb)
theorem inAt_new (w : World) (i j l : Int) : InAt (w.alloc (Obj.cells #[.int .i8 i, .int .i8 j, .int .u8 l] 24)) w.heap.size i j l := ⟨by go_simp, by go_simp, by go_simp⟩
theorem QAt.below {w w' : World} {b M n : Nat} {f x y z : Int} {g : Int → Option Value} (h : QAt w b M n f x y z g) (k : Below w.heap.size w w') : QAt w' b M n f x y z g :=
  h.kept (Kept.of_below (S := fun _ => False) k) (by simp) (by simp)
theorem QAt.drew {w : World} {b M n : Nat} {f x y z : Int} {g : Int → Option Value} (h : QAt w b M n f x y z g) : QAt w.drew b M n f x y z g := h.kept ((Kept.refl (fun _ => False) w).drew) (by simp) (by simp)
theorem InAt.all {w : World} {b : Nat} {i j l : Int} (h : InAt w b i j l) : w.cell? ⟨b, 0, none⟩ = some (.int .i8 i) ∧ w.cell? ⟨b, 1, none⟩ = some (.int .i8 j) ∧ w.cell? ⟨b, 2, none⟩ = some (.int .u8 l) := ⟨h.c0, h.c1, h.c2⟩
theorem size_alloc (w : World) (o : Obj) : (w.alloc o).heap.size = w.heap.size + 1 := by simp
theorem below_alloc (w : World) (o : Obj) : Below w.heap.size w (w.alloc o) := (Below.refl _ _).alloc (Nat.le_refl _) _

def tg : Int → Option Value := fun k => if k = 5 then some (inV 1 0 0) else none
theorem tg_of : putG (putG (fun _ => none) 5 (inV 1 0 0)) 5 (inV 0 2 0) = tg := by
  funext k
  unfold putG updM tg
  simp
theorem near_tg : Near tg 4 := by
  intro k hk
  unfold tg at hk
  split at hk
  · omega
  · cases hk
theorem gap_tg : Gap tg 4 0 := ⟨fun j hj => by omega, by decide⟩

set_option maxHeartbeats 4000000 in
theorem told_law (w : World) : Calls Try.prog 8 #[] w fun e w' => e = .returned (.bool true) ∧ Below w.heap.size w w' := by
  go_enter Try.func8, Try.ntmps8
  go_wp2_with fail
  have hB0 : Below w.heap.size w ((w.alloc (Obj.cells #[.int .i8 1, .int .i8 0, .int .u8 0] 24)).alloc (Obj.cells #[.int .i8 0, .int .i8 2, .int .u8 0] 24)) := ((Below.refl _ _).alloc (Nat.le_refl _) _).alloc (by simp) _
  have hI1 : InAt ((w.alloc (Obj.cells #[.int .i8 1, .int .i8 0, .int .u8 0] 24)).alloc (Obj.cells #[.int .i8 0, .int .i8 2, .int .u8 0] 24)) w.heap.size 1 0 0 := (inAt_new w 1 0 0).below (below_alloc _ _)
  have hI2 : InAt ((w.alloc (Obj.cells #[.int .i8 1, .int .i8 0, .int .u8 0] 24)).alloc (Obj.cells #[.int .i8 0, .int .i8 2, .int .u8 0] 24)) (w.heap.size + 1) 0 2 0 := by
    have := inAt_new (w.alloc (Obj.cells #[.int .i8 1, .int .i8 0, .int .u8 0] 24)) 0 2 0
    rwa [size_alloc] at this
  have hsz : ((w.alloc (Obj.cells #[.int .i8 1, .int .i8 0, .int .u8 0] 24)).alloc (Obj.cells #[.int .i8 0, .int .i8 2, .int .u8 0] 24)).heap.size = w.heap.size + 2 := by simp
  generalize (w.alloc (Obj.cells #[.int .i8 1, .int .i8 0, .int .u8 0] 24)).alloc (Obj.cells #[.int .i8 0, .int .i8 2, .int .u8 0] 24) = w0 at hB0 hI1 hI2 hsz ⊢
  obtain ⟨s, hs⟩ : ∃ s, w.heap.size = s := ⟨_, rfl⟩
  rw [hs] at hB0 hI1 hI2 hsz ⊢
  have HS := Lib.hid hs
  clear hs
  refine (new_any 4 0 2 0 _).mono ?_
  rintro e w1 ⟨b, M, rfl, hq1, hb, hM, hB1⟩
  replace hI1 := hI1.below hB1
  replace hI2 := hI2.below hB1
  have hB1' : Below s w w1 := hB0.trans (hB1.mono (by omega))
  have hs1 := hB1.size
  rw [hsz] at hb hM hs1
  have HI1 := Lib.hid hI1
  have HI2 := Lib.hid hI2
  have HB1 := Lib.hid hB1'
  obtain ⟨c0, c1, c2⟩ := hI1
  obtain ⟨d0, d1, d2⟩ := hI2
  have H1 := Lib.hid hq1
  clear hq1 hB1 hB0 hB1'
  go_wp2_with fail
  go_region_held3 (fun w' => w'.cell? ⟨s, 0, none⟩ = some (.int .i8 1) ∧ w'.cell? ⟨s, 1, none⟩ = some (.int .i8 0) ∧ w'.cell? ⟨s, 2, none⟩ = some (.int .u8 0) ∧ w'.cell? ⟨s + 1, 0, none⟩ = some (.int .i8 0) ∧ w'.cell? ⟨s + 1, 1, none⟩ = some (.int .i8 2) ∧ w'.cell? ⟨s + 1, 2, none⟩ = some (.int .u8 0)) (go_keep) (first
    | (go_at_call 10; refine (put_near b M _ 4 0 2 0 _ 5 0 2 0 _ H2.out (by omega) (by omega) (by omega) (by omega) (by omega) (by omega)).mono ?_; rintro e w3 ⟨rfl, h3, k3⟩; have H3 := Lib.hid h3; have K3 := Lib.hid k3; have HL1 := Lib.hid (HJ1.out.kept k3 (by omega)); have HL2 := Lib.hid (HJ2.out.kept k3 (by omega)); clear c0 c1 c2 d0 d1 d2; obtain ⟨c0, c1, c2⟩ := HL1.out.all; obtain ⟨d0, d1, d2⟩ := HL2.out.all; clear h3 k3)
    | (go_at_call 10; refine (put_near b M _ 4 0 2 0 _ 5 1 0 0 _ H1.out.drew (by omega) (by omega) (by omega) (by omega) (by omega) (by omega)).mono ?_; rintro e w2 ⟨rfl, h2, k2⟩; have H2 := Lib.hid h2; have K2 := Lib.hid k2; have HJ1 := Lib.hid (HI1.out.kept ((Kept.refl _ _).drew.trans k2) (by omega)); have HJ2 := Lib.hid (HI2.out.kept ((Kept.refl _ _).drew.trans k2) (by omega)); clear c0 c1 c2 d0 d1 d2; obtain ⟨c0, c1, c2⟩ := HJ1.out.all; obtain ⟨d0, d1, d2⟩ := HJ2.out.all; clear h2 k2))
  have HQ := Lib.hid (tg_of ▸ H3.out)
  have HB3 := Lib.hid (((HB1.out.trans ((Kept.refl (fun k => k = M) w1).drew.below (B := s) (fun k hk => by omega) (by omega))).trans (K2.out.below (B := s) (fun k hk => by omega) (by have := HI1.out.lt; simp; omega))).trans (K3.out.below (B := s) (fun k hk => by omega) (by have := HJ1.out.lt; omega)))
  clear H1 H2 H3 K2 HJ1 HJ2 HI1 HI2 HB1  K3 hs1 c0 c1 c2 d0 d1 d2
  go_wp2_with fail
  refine (at_any b M _ 4 0 2 0 tg 4 _ HQ.out near_tg (by omega) (by omega) (by omega) (by omega) (inV 0 2 0) false (by simp [atV, back, tg]) (by decide)).mono ?_
  rintro e x0 ⟨rfl, hA⟩
  unfold inV
  replace HQ := Lib.hid (HQ.out.below hA)
  replace HB3 := Lib.hid (HB3.out.trans (hA.mono (by have := HL1.out.lt; omega)))
  replace HL1 := Lib.hid (HL1.out.below hA)
  replace HL2 := Lib.hid (HL2.out.below hA)
  clear hA
  go_wp2_with fail
  have hA := below_alloc x0 (Obj.cells #[.int .i8 0, .int .i8 2, .int .u8 0] 24)
  have HN := Lib.hid (inAt_new x0 0 2 0)
  replace HQ := Lib.hid (HQ.out.below hA)
  replace HB3 := Lib.hid (HB3.out.trans (hA.mono (by have := HL1.out.lt; omega)))
  replace HL1 := Lib.hid (HL1.out.below hA)
  replace HL2 := Lib.hid (HL2.out.below hA)
  clear hA
  generalize x0.alloc (Obj.cells #[.int .i8 0, .int .i8 2, .int .u8 0] 24) = y1 at HQ HB3 HN HL1 HL2 ⊢
  generalize x0.heap.size = t1 at HN ⊢
  have HL3 := HN
  clear HN
  refine (at_any b M _ 4 0 2 0 tg 9 _ HQ.out near_tg (by omega) (by omega) (by omega) (by omega) (inV 1 0 0) false (by simp [atV, back, tg]) (by decide)).mono ?_
  rintro e x1 ⟨rfl, hA⟩
  unfold inV
  replace HQ := Lib.hid (HQ.out.below hA)
  replace HB3 := Lib.hid (HB3.out.trans (hA.mono (by have := HL1.out.lt; omega)))
  replace HL1 := Lib.hid (HL1.out.below hA)
  replace HL2 := Lib.hid (HL2.out.below hA)
  replace HL3 := Lib.hid (HL3.out.below hA)
  clear hA
  go_wp2_with fail
  have hA := below_alloc x1 (Obj.cells #[.int .i8 1, .int .i8 0, .int .u8 0] 24)
  have HN := Lib.hid (inAt_new x1 1 0 0)
  replace HQ := Lib.hid (HQ.out.below hA)
  replace HB3 := Lib.hid (HB3.out.trans (hA.mono (by have := HL1.out.lt; omega)))
  replace HL1 := Lib.hid (HL1.out.below hA)
  replace HL2 := Lib.hid (HL2.out.below hA)
  replace HL3 := Lib.hid (HL3.out.below hA)
  clear hA
  generalize x1.alloc (Obj.cells #[.int .i8 1, .int .i8 0, .int .u8 0] 24) = y2 at HQ HB3 HN HL1 HL2 HL3 ⊢
  generalize x1.heap.size = t2 at HN ⊢
  have HL4 := HN
  clear HN
  refine (at_any b M _ 4 0 2 0 tg 5 _ HQ.out near_tg (by omega) (by omega) (by omega) (by omega) (inV 1 0 0) true (by simp [atV, back, tg]) (by decide)).mono ?_
  rintro e x2 ⟨rfl, hA⟩
  unfold inV
  replace HQ := Lib.hid (HQ.out.below hA)
  replace HB3 := Lib.hid (HB3.out.trans (hA.mono (by have := HL1.out.lt; omega)))
  replace HL1 := Lib.hid (HL1.out.below hA)
  replace HL2 := Lib.hid (HL2.out.below hA)
  replace HL3 := Lib.hid (HL3.out.below hA)
  replace HL4 := Lib.hid (HL4.out.below hA)
  clear hA
  obtain ⟨c0, c1, c2⟩ := ((HL1.out.below (below_alloc x2 (Obj.cells #[.int .i8 1, .int .i8 0, .int .u8 0] 24)))).all
  go_wp2_with fail
  have hA := below_alloc x2 (Obj.cells #[.int .i8 1, .int .i8 0, .int .u8 0] 24)
  have HN := Lib.hid (inAt_new x2 1 0 0)
  replace HQ := Lib.hid (HQ.out.below hA)
  replace HB3 := Lib.hid (HB3.out.trans (hA.mono (by have := HL1.out.lt; omega)))
  replace HL1 := Lib.hid (HL1.out.below hA)
  replace HL2 := Lib.hid (HL2.out.below hA)
  replace HL3 := Lib.hid (HL3.out.below hA)
  replace HL4 := Lib.hid (HL4.out.below hA)
  clear hA
  generalize x2.alloc (Obj.cells #[.int .i8 1, .int .i8 0, .int .u8 0] 24) = y3 at c0 c1 c2 HQ HB3 HN HL1 HL2 HL3 HL4 ⊢
  generalize x2.heap.size = t3 at HN ⊢
  have HL5 := HN
  clear HN
  refine (put_no2 b M _ 4 0 2 0 tg 3 1 0 0 _ HQ.out (by decide) (by omega) (by omega) (by omega) (by omega) (by decide)).mono ?_
  rintro e z4 ⟨rfl, hA⟩
  replace HQ := Lib.hid (HQ.out.below hA)
  replace HB3 := Lib.hid (HB3.out.trans (hA.mono (by have := HL1.out.lt; omega)))
  replace HL1 := Lib.hid (HL1.out.below hA)
  replace HL2 := Lib.hid (HL2.out.below hA)
  replace HL3 := Lib.hid (HL3.out.below hA)
  replace HL4 := Lib.hid (HL4.out.below hA)
  replace HL5 := Lib.hid (HL5.out.below hA)
  clear hA
  clear c0 c1 c2
  obtain ⟨c0, c1, c2⟩ := HL1.out.all
  go_wp2_with fail
  refine (put_no2 b M _ 4 0 2 0 tg 68 1 0 0 _ HQ.out (by decide) (by omega) (by omega) (by omega) (by omega) (by decide)).mono ?_
  rintro e z5 ⟨rfl, hA⟩
  replace HQ := Lib.hid (HQ.out.below hA)
  replace HB3 := Lib.hid (HB3.out.trans (hA.mono (by have := HL1.out.lt; omega)))
  replace HL1 := Lib.hid (HL1.out.below hA)
  replace HL2 := Lib.hid (HL2.out.below hA)
  replace HL3 := Lib.hid (HL3.out.below hA)
  replace HL4 := Lib.hid (HL4.out.below hA)
  replace HL5 := Lib.hid (HL5.out.below hA)
  clear hA
  clear c0 c1 c2
  obtain ⟨c0, c1, c2⟩ := HL1.out.all
  go_wp2_with fail
  refine (at_nil 3 _).mono ?_
  rintro e z6 ⟨rfl, hA⟩
  replace HQ := Lib.hid (HQ.out.below hA)
  replace HB3 := Lib.hid (HB3.out.trans (hA.mono (by have := HL1.out.lt; omega)))
  replace HL1 := Lib.hid (HL1.out.below hA)
  replace HL2 := Lib.hid (HL2.out.below hA)
  replace HL3 := Lib.hid (HL3.out.below hA)
  replace HL4 := Lib.hid (HL4.out.below hA)
  replace HL5 := Lib.hid (HL5.out.below hA)
  clear hA
  clear c0 c1 c2
  obtain ⟨c0, c1, c2⟩ := (HL1.out.below (below_alloc z6 (Obj.cells #[.int .i8 0, .int .i8 0, .int .u8 0] 24))).all
  obtain ⟨c3, c4, c5⟩ := (HL2.out.below (below_alloc z6 (Obj.cells #[.int .i8 0, .int .i8 0, .int .u8 0] 24))).all
  obtain ⟨c6, c7, c8⟩ := (HL3.out.below (below_alloc z6 (Obj.cells #[.int .i8 0, .int .i8 0, .int .u8 0] 24))).all
  obtain ⟨c9, c10, c11⟩ := (HL4.out.below (below_alloc z6 (Obj.cells #[.int .i8 0, .int .i8 0, .int .u8 0] 24))).all
  obtain ⟨c12, c13, c14⟩ := (HL5.out.below (below_alloc z6 (Obj.cells #[.int .i8 0, .int .i8 0, .int .u8 0] 24))).all
  have hA := below_alloc z6 (Obj.cells #[.int .i8 0, .int .i8 0, .int .u8 0] 24)
  replace HQ := Lib.hid (HQ.out.below hA)
  replace HB3 := Lib.hid (HB3.out.trans (hA.mono (by have := HL1.out.lt; omega)))
  replace HL1 := Lib.hid (HL1.out.below hA)
  replace HL2 := Lib.hid (HL2.out.below hA)
  replace HL3 := Lib.hid (HL3.out.below hA)
  replace HL4 := Lib.hid (HL4.out.below hA)
  replace HL5 := Lib.hid (HL5.out.below hA)
  go_wp2_with fail
  refine (from_any b 4 _ HQ.out.c0).mono ?_
  rintro e w' ⟨rfl, rfl⟩
  go_wp2_with fail
  refine (known_any b M _ 4 0 2 0 tg _ HQ.out (by omega) (by omega) 0 (by omega) gap_tg).mono ?_
  rintro e z7 ⟨rfl, hA⟩
  replace HQ := Lib.hid (HQ.out.below hA)
  replace HB3 := Lib.hid (HB3.out.trans (hA.mono (by have := HL1.out.lt; omega)))
  replace HL1 := Lib.hid (HL1.out.below hA)
  replace HL2 := Lib.hid (HL2.out.below hA)
  replace HL3 := Lib.hid (HL3.out.below hA)
  replace HL4 := Lib.hid (HL4.out.below hA)
  replace HL5 := Lib.hid (HL5.out.below hA)
  clear hA
  clear c0 c1 c2 c3 c4 c5 c6 c7 c8 c9 c10 c11 c12 c13 c14
  obtain ⟨c0, c1, c2⟩ := HL1.out.all
  go_wp2_with fail
  refine (put_nil 1 1 0 0 _).mono ?_
  rintro e z8 ⟨rfl, hA⟩
  replace HQ := Lib.hid (HQ.out.below hA)
  replace HB3 := Lib.hid (HB3.out.trans (hA.mono (by have := HL1.out.lt; omega)))
  replace HL1 := Lib.hid (HL1.out.below hA)
  replace HL2 := Lib.hid (HL2.out.below hA)
  replace HL3 := Lib.hid (HL3.out.below hA)
  replace HL4 := Lib.hid (HL4.out.below hA)
  replace HL5 := Lib.hid (HL5.out.below hA)
  clear hA
  go_wp2_with fail
  refine (from_nil _).mono ?_
  rintro e w' ⟨rfl, rfl⟩
  go_wp2_with fail
  refine (known_nil _).mono ?_
  rintro e w' ⟨rfl, rfl⟩
  go_wp2_with fail
  go_ret
  exact ⟨rfl, HS.out ▸ HB3.out⟩
end Go.Proofs.Ytabgooglfgioiaa
