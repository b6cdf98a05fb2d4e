/-
  Entry: the region of EntryEvents that draws its order.
-/
import Derived.Test.YtmhgkkfeohaojaaN
import Derived.Deep.RegionHeld
namespace Go.Proofs.Ytmhgkkfeohaojaa
set_option linter.unusedVariables false
open Go.ChangeShapes Go.WideShapes Go.ChangeAt Go.RowKit

set_option linter.unusedSimpArgs false
/-- What the region keeps: the two events that came in; all older memory. -/
structure SX (T : Nat) (wb wd w' : World) : Prop where
  kT : w'.heap[T]? = wd.heap[T]?
  kU : w'.heap[T + 1]? = wd.heap[T + 1]?
  sz : T + 2 ≤ w'.heap.size
  bel : Below T wb w'
theorem SX.alloc {T : Nat} {wb wd w' : World} (h : SX T wb wd w') (o : Obj) : SX T wb wd (w'.alloc o) := by
  have := h.sz
  exact ⟨(Below.heap_alloc w' o T (by omega)).trans h.kT, (Below.heap_alloc w' o (T + 1) (by omega)).trans h.kU, by simp; omega, h.bel.alloc (by omega) o⟩
theorem SX.store {T : Nat} {wb wd w' : World} (h : SX T wb wd w') (b : Nat) (hb : T + 2 ≤ b) (vs : List Value) : SX T wb wd (w'.setCells b 0 vs) :=
  ⟨(setCells_other b T (by omega) vs 0 w').trans h.kT, (setCells_other b (T + 1) (by omega) vs 0 w').trans h.kU, by rw [setCells_size]; exact h.sz, below_setCells b (by omega) vs 0 h.bel⟩
theorem SX.cellT {T : Nat} {wb wd w' : World} (h : SX T wb wd w') {o : Nat} {v : Value} (c : wd.cell? ⟨T, o, none⟩ = some v) : w'.cell? ⟨T, o, none⟩ = some v := (World.cell?_of_block h.kT).trans c
theorem SX.cellU {T : Nat} {wb wd w' : World} (h : SX T wb wd w') {o : Nat} {v : Value} (c : wd.cell? ⟨T + 1, o, none⟩ = some v) : w'.cell? ⟨T + 1, o, none⟩ = some v := (World.cell?_of_block h.kU).trans c
def evF (k s g p : Int) : Nat → Nat → Int := fun _ j => if j = 0 then k else if j = 1 then s else if j = 2 then g else p
theorem evsAt_box (k s g p : Int) (w : World) : EvsAt (w.alloc (Obj.cells #[.int .i64 k, .int .i64 s, .int .i64 g, .int .i64 p] 43)) w.heap.size 0 1 (evF k s g p) := by
  constructor
  all_goals (intro i hi; obtain rfl : i = 0 := (by omega); rw [World.cell?_alloc_new]; rfl)
theorem there_box (w : World) : (w.alloc (Obj.cells (entL 0 (.slice none 0 0) (fun _ => 0)).toArray 28)).there w.heap.size 0 26 := fun j hj => by
  have := (entAt_new 0 (.slice none 0 0) (fun _ => 0) 28 w).cell j hj
  rw [this, Nat.zero_add, World.frozen?_alloc_new]
  exact ⟨rfl, rfl⟩
theorem build_run (a : Act) (o : Oper) (t : Nat) (b : Nat) (w : World) (hop : o.op = Op.build 28 #[(1, .tmp t)]) (h : a.eval (.tmp t) = .slice (some ⟨b, 0, none⟩) 1 1) :
    (execOp a.eval o).run Try.prog w = .ok (.value (.agg (entL 0 (.slice (some ⟨b, 0, none⟩) 1 1) (fun _ => 0)).toArray)) w := by
  have e : (Array.map (fun x => (x.fst, a.eval x.snd)) #[(1, .tmp t)] : Array (Nat × Value)) = #[(1, .slice (some ⟨b, 0, none⟩) 1 1)] := by simp [h]
  simp only [execOp, hop]
  rw [e, Sem.run_bind, build_ev]
  rfl
noncomputable def eeCode : Code := ((Try.f5.body.bind drawn).getD .skip)
set_option maxRecDepth 100000 in
set_option maxHeartbeats 8000000 in
theorem ee_region (T : Nat) (wb wr w0 : World) (hw0 : wr.drew = w0) (k1 s1 g1 p1 k2 s2 g2 p2 : Int) (c0 c1 c4 c5 c6 c7 c8 c9 c10 c11 c12 c13 c14 c15 c16 c17 c18 c19 c20 c21 c22 c23 c24 c25 c26 c27 c28 c29 c30 c31 c32 c33 c34 c35 c36 c37 c38 c39 c40 c41 c42 c43 c44 c45 c46 c47 c48 c49 c50 c51 c52 c53 c54 c55 c56 : Value) (hS : SX T wb w0 w0)
    (CT0 : Hid (w0.cell? ⟨T, 0, none⟩ = some (.int .i64 k1))) (CT1 : Hid (w0.cell? ⟨T, 1, none⟩ = some (.int .i64 s1))) (CT2 : Hid (w0.cell? ⟨T, 2, none⟩ = some (.int .i64 g1))) (CT3 : Hid (w0.cell? ⟨T, 3, none⟩ = some (.int .i64 p1)))
    (CU0 : Hid (w0.cell? ⟨T + 1, 0, none⟩ = some (.int .i64 k2))) (CU1 : Hid (w0.cell? ⟨T + 1, 1, none⟩ = some (.int .i64 s2))) (CU2 : Hid (w0.cell? ⟨T + 1, 2, none⟩ = some (.int .i64 g2))) (CU3 : Hid (w0.cell? ⟨T + 1, 3, none⟩ = some (.int .i64 p2)))
    (Q : Exit → Act → World → Prop) (hQp : ∀ (k : Nat) (v : Value) (c : List PanicEntry) (a : Act) (w' : World), Q (.panic c) (a.put (some k) v) w' → Q (.panic c) a w')
    (hQn : ∀ (x9 x10 x11 x12 x13 x14 : Value) (b1 b4 b6 b7 : Nat) (w' : World), EvsAt w' b1 0 1 (evF k1 s1 g1 p1) → EvsAt w' b4 0 1 (evF k2 s2 g2 p2) → EntAt w' b6 0 0 (.slice (some ⟨b1, 0, none⟩) 1 1) (fun _ => 0) → EntAt w' b7 0 0 (.slice (some ⟨b4, 0, none⟩) 1 1) (fun _ => 0) → SX T wb w0 w' → Q .normal ⟨#[c0, c1, .pointer (some ⟨T, 0, none⟩), .pointer (some ⟨T + 1, 0, none⟩), c4, .pointer (some ⟨b6, 0, none⟩), .pointer (some ⟨b7, 0, none⟩), c7, c8, x9, x10, x11, x12, x13, x14, c15, c16, c17, c18, c19, c20, c21, c22, c23, c24, c25, c26, c27, c28, c29, c30, c31, c32, c33, c34, c35, c36, c37, c38, c39, c40, c41, c42, c43, c44, c45, c46, c47, c48, c49, c50, c51, c52, c53, c54, c55, c56], []⟩ w') :
    Code.wp Try.prog eeCode Q ⟨#[c0, c1, .pointer (some ⟨T, 0, none⟩), .pointer (some ⟨T + 1, 0, none⟩), c4, c5, c6, c7, c8, c9, c10, c11, c12, c13, c14, c15, c16, c17, c18, c19, c20, c21, c22, c23, c24, c25, c26, c27, c28, c29, c30, c31, c32, c33, c34, c35, c36, c37, c38, c39, c40, c41, c42, c43, c44, c45, c46, c47, c48, c49, c50, c51, c52, c53, c54, c55, c56], []⟩ wr := by
  have hz := zeroEnt
  conv => arg 2; whnf
  refine wp_region_held (S := SX T wb w0) (by kernel_rfl) ?_
  change wpAnyH Try.prog Region.Mode.any _ Q (SX T wb w0) _ _ _ wr.drew
  rw [hw0]
  clear hw0 wr
  refine wpAnyH_take (i := 0) (v := ?_) rfl (by kernel_rfl) (by kernel_rfl) (by kernel_rfl) (hQp 9 _) (Or.inl ⟨by rfl, ?_⟩) hS ?_
  rotate_left 1
  · intro w hw; have q0 := hw.cellT CT0.out; have q1 := hw.cellT CT1.out; have q2 := hw.cellT CT2.out; have q3 := hw.cellT CT3.out; clear hw; go_simp; try with_reducible rfl
  try simp only [Act.put, List.setIfInBounds_toArray, List.set_cons_zero, List.set_cons_succ]
  refine wpAnyH_take (i := 3) (v := ?_) rfl (by kernel_rfl) (by kernel_rfl) (by kernel_rfl) (hQp 12 _) (Or.inl ⟨by rfl, ?_⟩) hS ?_
  rotate_left 1
  · intro w hw; have q0 := hw.cellU CU0.out; have q1 := hw.cellU CU1.out; have q2 := hw.cellU CU2.out; have q3 := hw.cellU CU3.out; clear hw; go_simp; try with_reducible rfl
  try simp only [Act.put, List.setIfInBounds_toArray, List.set_cons_zero, List.set_cons_succ]
  refine wpAnyH_ready (rs := [1, 4, 6, 7]) (by kernel_rfl) (by simp) ?_
  refine AllReadyH.cons rfl (fun K hK => ?_) (AllReadyH.cons rfl (fun K hK => ?_) (AllReadyH.cons rfl (fun K hK => ?_) (AllReadyH.cons rfl (fun K hK => ?_) AllReadyH.nil)))
  ·
   go_simp
   refine hK.out _ _ ?_ (fun _ => ?_)
   · exact hS.alloc (Obj.cells #[.int .i64 k1, .int .i64 s1, .int .i64 g1, .int .i64 p1] 43)
   clear hK K
   try simp only [Act.put, List.setIfInBounds_toArray, List.set_cons_zero, List.set_cons_succ]
   have hS2 := hS.alloc (Obj.cells #[.int .i64 k1, .int .i64 s1, .int .i64 g1, .int .i64 p1] 43)
   have gg1 := hS.sz
   have hh1 := evsAt_box k1 s1 g1 p1 w0
   have ll1 : w0.heap.size < (w0.alloc (Obj.cells #[.int .i64 k1, .int .i64 s1, .int .i64 g1, .int .i64 p1] 43)).heap.size := by simp
   clear hS
   have hS := hS2
   clear hS2
   generalize w0.alloc (Obj.cells #[.int .i64 k1, .int .i64 s1, .int .i64 g1, .int .i64 p1] 43) = w1 at *
   generalize w0.heap.size = b1 at *
   try clear w0
   obtain ⟨w0, rfl⟩ : ∃ x, x = w1 := ⟨_, rfl⟩
   refine wpAnyH_take (i := 2) (v := ?_) rfl (by kernel_rfl) (by kernel_rfl) (by kernel_rfl) (hQp 11 _) (Or.inl ⟨by rfl, ?_⟩) hS ?_
   rotate_left 1
   · intro w hw; refine build_run _ _ 10 b1 _ ?_ ?_ <;> rfl
   try simp only [Act.put, List.setIfInBounds_toArray, List.set_cons_zero, List.set_cons_succ]
   refine wpAnyH_ready (rs := [4, 6, 7]) (by kernel_rfl) (by simp) ?_
   refine AllReadyH.cons rfl (fun K hK => ?_) (AllReadyH.cons rfl (fun K hK => ?_) (AllReadyH.cons rfl (fun K hK => ?_) AllReadyH.nil))
   ·
    go_simp
    refine hK.out _ _ ?_ (fun _ => ?_)
    · exact hS.alloc (Obj.cells #[.int .i64 k2, .int .i64 s2, .int .i64 g2, .int .i64 p2] 43)
    clear hK K
    try simp only [Act.put, List.setIfInBounds_toArray, List.set_cons_zero, List.set_cons_succ]
    have hS2 := hS.alloc (Obj.cells #[.int .i64 k2, .int .i64 s2, .int .i64 g2, .int .i64 p2] 43)
    have gg4 := hS.sz
    have hh4 := evsAt_box k2 s2 g2 p2 w0
    have ll4 : w0.heap.size < (w0.alloc (Obj.cells #[.int .i64 k2, .int .i64 s2, .int .i64 g2, .int .i64 p2] 43)).heap.size := by simp
    have hh1' := hh1.block (Below.heap_alloc w0 (Obj.cells #[.int .i64 k2, .int .i64 s2, .int .i64 g2, .int .i64 p2] 43) b1 ll1)
    have ll1' : b1 < (w0.alloc (Obj.cells #[.int .i64 k2, .int .i64 s2, .int .i64 g2, .int .i64 p2] 43)).heap.size := by simp; omega
    have nn41 : w0.heap.size ≠ b1 := by omega
    clear hS hh1 ll1
    have hh1 := hh1'
    have ll1 := ll1'
    clear hh1' ll1'
    have hS := hS2
    clear hS2
    generalize w0.alloc (Obj.cells #[.int .i64 k2, .int .i64 s2, .int .i64 g2, .int .i64 p2] 43) = w1 at *
    generalize w0.heap.size = b4 at *
    try clear w0
    obtain ⟨w0, rfl⟩ : ∃ x, x = w1 := ⟨_, rfl⟩
    refine wpAnyH_take (i := 5) (v := ?_) rfl (by kernel_rfl) (by kernel_rfl) (by kernel_rfl) (hQp 14 _) (Or.inl ⟨by rfl, ?_⟩) hS ?_
    rotate_left 1
    · intro w hw; refine build_run _ _ 13 b4 _ ?_ ?_ <;> rfl
    try simp only [Act.put, List.setIfInBounds_toArray, List.set_cons_zero, List.set_cons_succ]
    refine wpAnyH_ready (rs := [6, 7]) (by kernel_rfl) (by simp) ?_
    refine AllReadyH.cons rfl (fun K hK => ?_) (AllReadyH.cons rfl (fun K hK => ?_) AllReadyH.nil)
    ·
     go_simp
     refine hK.out _ _ ?_ (fun _ => ?_)
     · exact hS.alloc (Obj.cells (entL 0 (.slice none 0 0) (fun _ => 0)).toArray 28)
     clear hK K
     try simp only [Act.put, List.setIfInBounds_toArray, List.set_cons_zero, List.set_cons_succ]
     have hS2 := hS.alloc (Obj.cells (entL 0 (.slice none 0 0) (fun _ => 0)).toArray 28)
     have gg6 := hS.sz
     have hh6 := there_box w0
     have ll6 : w0.heap.size < (w0.alloc (Obj.cells (entL 0 (.slice none 0 0) (fun _ => 0)).toArray 28)).heap.size := by simp
     have hh1' := hh1.block (Below.heap_alloc w0 (Obj.cells (entL 0 (.slice none 0 0) (fun _ => 0)).toArray 28) b1 ll1)
     have ll1' : b1 < (w0.alloc (Obj.cells (entL 0 (.slice none 0 0) (fun _ => 0)).toArray 28)).heap.size := by simp; omega
     have nn61 : w0.heap.size ≠ b1 := by omega
     have hh4' := hh4.block (Below.heap_alloc w0 (Obj.cells (entL 0 (.slice none 0 0) (fun _ => 0)).toArray 28) b4 ll4)
     have ll4' : b4 < (w0.alloc (Obj.cells (entL 0 (.slice none 0 0) (fun _ => 0)).toArray 28)).heap.size := by simp; omega
     have nn64 : w0.heap.size ≠ b4 := by omega
     clear hS hh1 ll1 hh4 ll4
     have hh1 := hh1'
     have ll1 := ll1'
     clear hh1' ll1'
     have hh4 := hh4'
     have ll4 := ll4'
     clear hh4' ll4'
     have hS := hS2
     clear hS2
     generalize w0.alloc (Obj.cells (entL 0 (.slice none 0 0) (fun _ => 0)).toArray 28) = w1 at *
     generalize w0.heap.size = b6 at *
     try clear w0
     obtain ⟨w0, rfl⟩ : ∃ x, x = w1 := ⟨_, rfl⟩
     refine wpAnyH_ready (rs := [7]) (by kernel_rfl) (by simp) ?_
     refine AllReadyH.cons rfl (fun K hK => ?_) AllReadyH.nil
     ·
      go_simp
      refine hK.out _ _ ?_ (fun _ => ?_)
      · exact hS.alloc (Obj.cells (entL 0 (.slice none 0 0) (fun _ => 0)).toArray 28)
      clear hK K
      try simp only [Act.put, List.setIfInBounds_toArray, List.set_cons_zero, List.set_cons_succ]
      have hS2 := hS.alloc (Obj.cells (entL 0 (.slice none 0 0) (fun _ => 0)).toArray 28)
      have gg7 := hS.sz
      have hh7 := there_box w0
      have ll7 : w0.heap.size < (w0.alloc (Obj.cells (entL 0 (.slice none 0 0) (fun _ => 0)).toArray 28)).heap.size := by simp
      have hh1' := hh1.block (Below.heap_alloc w0 (Obj.cells (entL 0 (.slice none 0 0) (fun _ => 0)).toArray 28) b1 ll1)
      have ll1' : b1 < (w0.alloc (Obj.cells (entL 0 (.slice none 0 0) (fun _ => 0)).toArray 28)).heap.size := by simp; omega
      have nn71 : w0.heap.size ≠ b1 := by omega
      have hh4' := hh4.block (Below.heap_alloc w0 (Obj.cells (entL 0 (.slice none 0 0) (fun _ => 0)).toArray 28) b4 ll4)
      have ll4' : b4 < (w0.alloc (Obj.cells (entL 0 (.slice none 0 0) (fun _ => 0)).toArray 28)).heap.size := by simp; omega
      have nn74 : w0.heap.size ≠ b4 := by omega
      have hh6' := there_block hh6 (Below.heap_alloc w0 (Obj.cells (entL 0 (.slice none 0 0) (fun _ => 0)).toArray 28) b6 ll6)
      have ll6' : b6 < (w0.alloc (Obj.cells (entL 0 (.slice none 0 0) (fun _ => 0)).toArray 28)).heap.size := by simp; omega
      have nn76 : w0.heap.size ≠ b6 := by omega
      clear hS hh1 ll1 hh4 ll4 hh6 ll6
      have hh1 := hh1'
      have ll1 := ll1'
      clear hh1' ll1'
      have hh4 := hh4'
      have ll4 := ll4'
      clear hh4' ll4'
      have hh6 := hh6'
      have ll6 := ll6'
      clear hh6' ll6'
      have hS := hS2
      clear hS2
      generalize w0.alloc (Obj.cells (entL 0 (.slice none 0 0) (fun _ => 0)).toArray 28) = w1 at *
      generalize w0.heap.size = b7 at *
      try clear w0
      obtain ⟨w0, rfl⟩ : ∃ x, x = w1 := ⟨_, rfl⟩
      refine wpAnyH_ready (rs := [8]) (by kernel_rfl) (by simp) ?_
      refine AllReadyH.cons rfl (fun K hK => ?_) AllReadyH.nil
      ·
       rw [if_pos (by rfl)]
       refine wp_store_mid 28 _ _ rfl b6 0 (entL 0 (.slice (some ⟨b1, 0, none⟩) 1 1) (fun _ => 0)).toArray rfl rfl (by rw [List.size_toArray, entL_len]; exact hh6) (by rw [List.size_toArray]; exact size_ent _ _ _) (entL_one _ _ _ _ _) ?_
       rw [show (entL 0 (.slice (some ⟨b1, 0, none⟩) 1 1) (fun _ => 0)).toArray.toList = (entL 0 (.slice (some ⟨b1, 0, none⟩) 1 1) (fun _ => 0)) from rfl]
       have hS2 := hS.store b6 gg6 (entL 0 (.slice (some ⟨b1, 0, none⟩) 1 1) (fun _ => 0))
       refine hK.out _ _ hS2 (fun _ => ?_)
       clear hK K
       try simp only [Act.put, List.setIfInBounds_toArray, List.set_cons_zero, List.set_cons_succ]
       have mm6 := entAt_stored hh6 0 (.slice (some ⟨b1, 0, none⟩) 1 1) (fun _ => 0)
       have hh1' := hh1.block (setCells_other b6 b1 (by omega) (entL 0 (.slice (some ⟨b1, 0, none⟩) 1 1) (fun _ => 0)) 0 w0)
       have hh4' := hh4.block (setCells_other b6 b4 (by omega) (entL 0 (.slice (some ⟨b1, 0, none⟩) 1 1) (fun _ => 0)) 0 w0)
       have hh7' := there_block hh7 (setCells_other b6 b7 (by omega) (entL 0 (.slice (some ⟨b1, 0, none⟩) 1 1) (fun _ => 0)) 0 w0)
       have ll1' : b1 < (w0.setCells b6 0 (entL 0 (.slice (some ⟨b1, 0, none⟩) 1 1) (fun _ => 0))).heap.size := by rw [setCells_size]; exact ll1
       have ll4' : b4 < (w0.setCells b6 0 (entL 0 (.slice (some ⟨b1, 0, none⟩) 1 1) (fun _ => 0))).heap.size := by rw [setCells_size]; exact ll4
       have ll6' : b6 < (w0.setCells b6 0 (entL 0 (.slice (some ⟨b1, 0, none⟩) 1 1) (fun _ => 0))).heap.size := by rw [setCells_size]; exact ll6
       have ll7' : b7 < (w0.setCells b6 0 (entL 0 (.slice (some ⟨b1, 0, none⟩) 1 1) (fun _ => 0))).heap.size := by rw [setCells_size]; exact ll7
       clear hS hh6 hh1 hh4 hh7 ll1 ll4 ll6 ll7
       have hh1 := hh1'
       clear hh1'
       have hh4 := hh4'
       clear hh4'
       have hh7 := hh7'
       clear hh7'
       have ll1 := ll1'
       clear ll1'
       have ll4 := ll4'
       clear ll4'
       have ll6 := ll6'
       clear ll6'
       have ll7 := ll7'
       clear ll7'
       have hS := hS2
       clear hS2
       generalize w0.setCells b6 0 (entL 0 (.slice (some ⟨b1, 0, none⟩) 1 1) (fun _ => 0)) = w1 at *
       try clear w0
       obtain ⟨w0, rfl⟩ : ∃ x, x = w1 := ⟨_, rfl⟩
       refine wpAnyH_ready (rs := [9]) (by kernel_rfl) (by simp) ?_
       refine AllReadyH.cons rfl (fun K hK => ?_) AllReadyH.nil
       ·
        rw [if_pos (by rfl)]
        refine wp_store_mid 28 _ _ rfl b7 0 (entL 0 (.slice (some ⟨b4, 0, none⟩) 1 1) (fun _ => 0)).toArray rfl rfl (by rw [List.size_toArray, entL_len]; exact hh7) (by rw [List.size_toArray]; exact size_ent _ _ _) (entL_one _ _ _ _ _) ?_
        rw [show (entL 0 (.slice (some ⟨b4, 0, none⟩) 1 1) (fun _ => 0)).toArray.toList = (entL 0 (.slice (some ⟨b4, 0, none⟩) 1 1) (fun _ => 0)) from rfl]
        have hS2 := hS.store b7 gg7 (entL 0 (.slice (some ⟨b4, 0, none⟩) 1 1) (fun _ => 0))
        refine hK.out _ _ hS2 (fun _ => ?_)
        clear hK K
        try simp only [Act.put, List.setIfInBounds_toArray, List.set_cons_zero, List.set_cons_succ]
        have mm7 := entAt_stored hh7 0 (.slice (some ⟨b4, 0, none⟩) 1 1) (fun _ => 0)
        have hh1' := hh1.block (setCells_other b7 b1 (by omega) (entL 0 (.slice (some ⟨b4, 0, none⟩) 1 1) (fun _ => 0)) 0 w0)
        have hh4' := hh4.block (setCells_other b7 b4 (by omega) (entL 0 (.slice (some ⟨b4, 0, none⟩) 1 1) (fun _ => 0)) 0 w0)
        have mm6' := mm6.block (setCells_other b7 b6 (by omega) (entL 0 (.slice (some ⟨b4, 0, none⟩) 1 1) (fun _ => 0)) 0 w0)
        have ll1' : b1 < (w0.setCells b7 0 (entL 0 (.slice (some ⟨b4, 0, none⟩) 1 1) (fun _ => 0))).heap.size := by rw [setCells_size]; exact ll1
        have ll4' : b4 < (w0.setCells b7 0 (entL 0 (.slice (some ⟨b4, 0, none⟩) 1 1) (fun _ => 0))).heap.size := by rw [setCells_size]; exact ll4
        have ll6' : b6 < (w0.setCells b7 0 (entL 0 (.slice (some ⟨b4, 0, none⟩) 1 1) (fun _ => 0))).heap.size := by rw [setCells_size]; exact ll6
        have ll7' : b7 < (w0.setCells b7 0 (entL 0 (.slice (some ⟨b4, 0, none⟩) 1 1) (fun _ => 0))).heap.size := by rw [setCells_size]; exact ll7
        clear hS hh7 hh1 hh4 mm6 ll1 ll4 ll6 ll7
        have hh1 := hh1'
        clear hh1'
        have hh4 := hh4'
        clear hh4'
        have mm6 := mm6'
        clear mm6'
        have ll1 := ll1'
        clear ll1'
        have ll4 := ll4'
        clear ll4'
        have ll6 := ll6'
        clear ll6'
        have ll7 := ll7'
        clear ll7'
        have hS := hS2
        clear hS2
        generalize w0.setCells b7 0 (entL 0 (.slice (some ⟨b4, 0, none⟩) 1 1) (fun _ => 0)) = w1 at *
        try clear w0
        obtain ⟨w0, rfl⟩ : ∃ x, x = w1 := ⟨_, rfl⟩
        refine wpAnyH_done (by kernel_rfl) ?_ _
        exact hQn _ _ _ _ _ _ b1 b4 b6 b7 w0 hh1 hh4 mm6 mm7 hS
    ·
     go_simp
     refine hK.out _ _ ?_ (fun _ => ?_)
     · exact hS.alloc (Obj.cells (entL 0 (.slice none 0 0) (fun _ => 0)).toArray 28)
     clear hK K
     try simp only [Act.put, List.setIfInBounds_toArray, List.set_cons_zero, List.set_cons_succ]
     have hS2 := hS.alloc (Obj.cells (entL 0 (.slice none 0 0) (fun _ => 0)).toArray 28)
     have gg7 := hS.sz
     have hh7 := there_box w0
     have ll7 : w0.heap.size < (w0.alloc (Obj.cells (entL 0 (.slice none 0 0) (fun _ => 0)).toArray 28)).heap.size := by simp
     have hh1' := hh1.block (Below.heap_alloc w0 (Obj.cells (entL 0 (.slice none 0 0) (fun _ => 0)).toArray 28) b1 ll1)
     have ll1' : b1 < (w0.alloc (Obj.cells (entL 0 (.slice none 0 0) (fun _ => 0)).toArray 28)).heap.size := by simp; omega
     have nn71 : w0.heap.size ≠ b1 := by omega
     have hh4' := hh4.block (Below.heap_alloc w0 (Obj.cells (entL 0 (.slice none 0 0) (fun _ => 0)).toArray 28) b4 ll4)
     have ll4' : b4 < (w0.alloc (Obj.cells (entL 0 (.slice none 0 0) (fun _ => 0)).toArray 28)).heap.size := by simp; omega
     have nn74 : w0.heap.size ≠ b4 := by omega
     clear hS hh1 ll1 hh4 ll4
     have hh1 := hh1'
     have ll1 := ll1'
     clear hh1' ll1'
     have hh4 := hh4'
     have ll4 := ll4'
     clear hh4' ll4'
     have hS := hS2
     clear hS2
     generalize w0.alloc (Obj.cells (entL 0 (.slice none 0 0) (fun _ => 0)).toArray 28) = w1 at *
     generalize w0.heap.size = b7 at *
     try clear w0
     obtain ⟨w0, rfl⟩ : ∃ x, x = w1 := ⟨_, rfl⟩
     refine wpAnyH_ready (rs := [6]) (by kernel_rfl) (by simp) ?_
     refine AllReadyH.cons rfl (fun K hK => ?_) AllReadyH.nil
     ·
      go_simp
      refine hK.out _ _ ?_ (fun _ => ?_)
      · exact hS.alloc (Obj.cells (entL 0 (.slice none 0 0) (fun _ => 0)).toArray 28)
      clear hK K
      try simp only [Act.put, List.setIfInBounds_toArray, List.set_cons_zero, List.set_cons_succ]
      have hS2 := hS.alloc (Obj.cells (entL 0 (.slice none 0 0) (fun _ => 0)).toArray 28)
      have gg6 := hS.sz
      have hh6 := there_box w0
      have ll6 : w0.heap.size < (w0.alloc (Obj.cells (entL 0 (.slice none 0 0) (fun _ => 0)).toArray 28)).heap.size := by simp
      have hh1' := hh1.block (Below.heap_alloc w0 (Obj.cells (entL 0 (.slice none 0 0) (fun _ => 0)).toArray 28) b1 ll1)
      have ll1' : b1 < (w0.alloc (Obj.cells (entL 0 (.slice none 0 0) (fun _ => 0)).toArray 28)).heap.size := by simp; omega
      have nn61 : w0.heap.size ≠ b1 := by omega
      have hh4' := hh4.block (Below.heap_alloc w0 (Obj.cells (entL 0 (.slice none 0 0) (fun _ => 0)).toArray 28) b4 ll4)
      have ll4' : b4 < (w0.alloc (Obj.cells (entL 0 (.slice none 0 0) (fun _ => 0)).toArray 28)).heap.size := by simp; omega
      have nn64 : w0.heap.size ≠ b4 := by omega
      have hh7' := there_block hh7 (Below.heap_alloc w0 (Obj.cells (entL 0 (.slice none 0 0) (fun _ => 0)).toArray 28) b7 ll7)
      have ll7' : b7 < (w0.alloc (Obj.cells (entL 0 (.slice none 0 0) (fun _ => 0)).toArray 28)).heap.size := by simp; omega
      have nn67 : w0.heap.size ≠ b7 := by omega
      clear hS hh1 ll1 hh4 ll4 hh7 ll7
      have hh1 := hh1'
      have ll1 := ll1'
      clear hh1' ll1'
      have hh4 := hh4'
      have ll4 := ll4'
      clear hh4' ll4'
      have hh7 := hh7'
      have ll7 := ll7'
      clear hh7' ll7'
      have hS := hS2
      clear hS2
      generalize w0.alloc (Obj.cells (entL 0 (.slice none 0 0) (fun _ => 0)).toArray 28) = w1 at *
      generalize w0.heap.size = b6 at *
      try clear w0
      obtain ⟨w0, rfl⟩ : ∃ x, x = w1 := ⟨_, rfl⟩
      refine wpAnyH_ready (rs := [8]) (by kernel_rfl) (by simp) ?_
      refine AllReadyH.cons rfl (fun K hK => ?_) AllReadyH.nil
      ·
       rw [if_pos (by rfl)]
       refine wp_store_mid 28 _ _ rfl b6 0 (entL 0 (.slice (some ⟨b1, 0, none⟩) 1 1) (fun _ => 0)).toArray rfl rfl (by rw [List.size_toArray, entL_len]; exact hh6) (by rw [List.size_toArray]; exact size_ent _ _ _) (entL_one _ _ _ _ _) ?_
       rw [show (entL 0 (.slice (some ⟨b1, 0, none⟩) 1 1) (fun _ => 0)).toArray.toList = (entL 0 (.slice (some ⟨b1, 0, none⟩) 1 1) (fun _ => 0)) from rfl]
       have hS2 := hS.store b6 gg6 (entL 0 (.slice (some ⟨b1, 0, none⟩) 1 1) (fun _ => 0))
       refine hK.out _ _ hS2 (fun _ => ?_)
       clear hK K
       try simp only [Act.put, List.setIfInBounds_toArray, List.set_cons_zero, List.set_cons_succ]
       have mm6 := entAt_stored hh6 0 (.slice (some ⟨b1, 0, none⟩) 1 1) (fun _ => 0)
       have hh1' := hh1.block (setCells_other b6 b1 (by omega) (entL 0 (.slice (some ⟨b1, 0, none⟩) 1 1) (fun _ => 0)) 0 w0)
       have hh4' := hh4.block (setCells_other b6 b4 (by omega) (entL 0 (.slice (some ⟨b1, 0, none⟩) 1 1) (fun _ => 0)) 0 w0)
       have hh7' := there_block hh7 (setCells_other b6 b7 (by omega) (entL 0 (.slice (some ⟨b1, 0, none⟩) 1 1) (fun _ => 0)) 0 w0)
       have ll1' : b1 < (w0.setCells b6 0 (entL 0 (.slice (some ⟨b1, 0, none⟩) 1 1) (fun _ => 0))).heap.size := by rw [setCells_size]; exact ll1
       have ll4' : b4 < (w0.setCells b6 0 (entL 0 (.slice (some ⟨b1, 0, none⟩) 1 1) (fun _ => 0))).heap.size := by rw [setCells_size]; exact ll4
       have ll6' : b6 < (w0.setCells b6 0 (entL 0 (.slice (some ⟨b1, 0, none⟩) 1 1) (fun _ => 0))).heap.size := by rw [setCells_size]; exact ll6
       have ll7' : b7 < (w0.setCells b6 0 (entL 0 (.slice (some ⟨b1, 0, none⟩) 1 1) (fun _ => 0))).heap.size := by rw [setCells_size]; exact ll7
       clear hS hh6 hh1 hh4 hh7 ll1 ll4 ll6 ll7
       have hh1 := hh1'
       clear hh1'
       have hh4 := hh4'
       clear hh4'
       have hh7 := hh7'
       clear hh7'
       have ll1 := ll1'
       clear ll1'
       have ll4 := ll4'
       clear ll4'
       have ll6 := ll6'
       clear ll6'
       have ll7 := ll7'
       clear ll7'
       have hS := hS2
       clear hS2
       generalize w0.setCells b6 0 (entL 0 (.slice (some ⟨b1, 0, none⟩) 1 1) (fun _ => 0)) = w1 at *
       try clear w0
       obtain ⟨w0, rfl⟩ : ∃ x, x = w1 := ⟨_, rfl⟩
       refine wpAnyH_ready (rs := [9]) (by kernel_rfl) (by simp) ?_
       refine AllReadyH.cons rfl (fun K hK => ?_) AllReadyH.nil
       ·
        rw [if_pos (by rfl)]
        refine wp_store_mid 28 _ _ rfl b7 0 (entL 0 (.slice (some ⟨b4, 0, none⟩) 1 1) (fun _ => 0)).toArray rfl rfl (by rw [List.size_toArray, entL_len]; exact hh7) (by rw [List.size_toArray]; exact size_ent _ _ _) (entL_one _ _ _ _ _) ?_
        rw [show (entL 0 (.slice (some ⟨b4, 0, none⟩) 1 1) (fun _ => 0)).toArray.toList = (entL 0 (.slice (some ⟨b4, 0, none⟩) 1 1) (fun _ => 0)) from rfl]
        have hS2 := hS.store b7 gg7 (entL 0 (.slice (some ⟨b4, 0, none⟩) 1 1) (fun _ => 0))
        refine hK.out _ _ hS2 (fun _ => ?_)
        clear hK K
        try simp only [Act.put, List.setIfInBounds_toArray, List.set_cons_zero, List.set_cons_succ]
        have mm7 := entAt_stored hh7 0 (.slice (some ⟨b4, 0, none⟩) 1 1) (fun _ => 0)
        have hh1' := hh1.block (setCells_other b7 b1 (by omega) (entL 0 (.slice (some ⟨b4, 0, none⟩) 1 1) (fun _ => 0)) 0 w0)
        have hh4' := hh4.block (setCells_other b7 b4 (by omega) (entL 0 (.slice (some ⟨b4, 0, none⟩) 1 1) (fun _ => 0)) 0 w0)
        have mm6' := mm6.block (setCells_other b7 b6 (by omega) (entL 0 (.slice (some ⟨b4, 0, none⟩) 1 1) (fun _ => 0)) 0 w0)
        have ll1' : b1 < (w0.setCells b7 0 (entL 0 (.slice (some ⟨b4, 0, none⟩) 1 1) (fun _ => 0))).heap.size := by rw [setCells_size]; exact ll1
        have ll4' : b4 < (w0.setCells b7 0 (entL 0 (.slice (some ⟨b4, 0, none⟩) 1 1) (fun _ => 0))).heap.size := by rw [setCells_size]; exact ll4
        have ll6' : b6 < (w0.setCells b7 0 (entL 0 (.slice (some ⟨b4, 0, none⟩) 1 1) (fun _ => 0))).heap.size := by rw [setCells_size]; exact ll6
        have ll7' : b7 < (w0.setCells b7 0 (entL 0 (.slice (some ⟨b4, 0, none⟩) 1 1) (fun _ => 0))).heap.size := by rw [setCells_size]; exact ll7
        clear hS hh7 hh1 hh4 mm6 ll1 ll4 ll6 ll7
        have hh1 := hh1'
        clear hh1'
        have hh4 := hh4'
        clear hh4'
        have mm6 := mm6'
        clear mm6'
        have ll1 := ll1'
        clear ll1'
        have ll4 := ll4'
        clear ll4'
        have ll6 := ll6'
        clear ll6'
        have ll7 := ll7'
        clear ll7'
        have hS := hS2
        clear hS2
        generalize w0.setCells b7 0 (entL 0 (.slice (some ⟨b4, 0, none⟩) 1 1) (fun _ => 0)) = w1 at *
        try clear w0
        obtain ⟨w0, rfl⟩ : ∃ x, x = w1 := ⟨_, rfl⟩
        refine wpAnyH_done (by kernel_rfl) ?_ _
        exact hQn _ _ _ _ _ _ b1 b4 b6 b7 w0 hh1 hh4 mm6 mm7 hS
   ·
    go_simp
    refine hK.out _ _ ?_ (fun _ => ?_)
    · exact hS.alloc (Obj.cells (entL 0 (.slice none 0 0) (fun _ => 0)).toArray 28)
    clear hK K
    try simp only [Act.put, List.setIfInBounds_toArray, List.set_cons_zero, List.set_cons_succ]
    have hS2 := hS.alloc (Obj.cells (entL 0 (.slice none 0 0) (fun _ => 0)).toArray 28)
    have gg6 := hS.sz
    have hh6 := there_box w0
    have ll6 : w0.heap.size < (w0.alloc (Obj.cells (entL 0 (.slice none 0 0) (fun _ => 0)).toArray 28)).heap.size := by simp
    have hh1' := hh1.block (Below.heap_alloc w0 (Obj.cells (entL 0 (.slice none 0 0) (fun _ => 0)).toArray 28) b1 ll1)
    have ll1' : b1 < (w0.alloc (Obj.cells (entL 0 (.slice none 0 0) (fun _ => 0)).toArray 28)).heap.size := by simp; omega
    have nn61 : w0.heap.size ≠ b1 := by omega
    clear hS hh1 ll1
    have hh1 := hh1'
    have ll1 := ll1'
    clear hh1' ll1'
    have hS := hS2
    clear hS2
    generalize w0.alloc (Obj.cells (entL 0 (.slice none 0 0) (fun _ => 0)).toArray 28) = w1 at *
    generalize w0.heap.size = b6 at *
    try clear w0
    obtain ⟨w0, rfl⟩ : ∃ x, x = w1 := ⟨_, rfl⟩
    refine wpAnyH_ready (rs := [4, 7]) (by kernel_rfl) (by simp) ?_
    refine AllReadyH.cons rfl (fun K hK => ?_) (AllReadyH.cons rfl (fun K hK => ?_) AllReadyH.nil)
    ·
     go_simp
     refine hK.out _ _ ?_ (fun _ => ?_)
     · exact hS.alloc (Obj.cells #[.int .i64 k2, .int .i64 s2, .int .i64 g2, .int .i64 p2] 43)
     clear hK K
     try simp only [Act.put, List.setIfInBounds_toArray, List.set_cons_zero, List.set_cons_succ]
     have hS2 := hS.alloc (Obj.cells #[.int .i64 k2, .int .i64 s2, .int .i64 g2, .int .i64 p2] 43)
     have gg4 := hS.sz
     have hh4 := evsAt_box k2 s2 g2 p2 w0
     have ll4 : w0.heap.size < (w0.alloc (Obj.cells #[.int .i64 k2, .int .i64 s2, .int .i64 g2, .int .i64 p2] 43)).heap.size := by simp
     have hh1' := hh1.block (Below.heap_alloc w0 (Obj.cells #[.int .i64 k2, .int .i64 s2, .int .i64 g2, .int .i64 p2] 43) b1 ll1)
     have ll1' : b1 < (w0.alloc (Obj.cells #[.int .i64 k2, .int .i64 s2, .int .i64 g2, .int .i64 p2] 43)).heap.size := by simp; omega
     have nn41 : w0.heap.size ≠ b1 := by omega
     have hh6' := there_block hh6 (Below.heap_alloc w0 (Obj.cells #[.int .i64 k2, .int .i64 s2, .int .i64 g2, .int .i64 p2] 43) b6 ll6)
     have ll6' : b6 < (w0.alloc (Obj.cells #[.int .i64 k2, .int .i64 s2, .int .i64 g2, .int .i64 p2] 43)).heap.size := by simp; omega
     have nn46 : w0.heap.size ≠ b6 := by omega
     clear hS hh1 ll1 hh6 ll6
     have hh1 := hh1'
     have ll1 := ll1'
     clear hh1' ll1'
     have hh6 := hh6'
     have ll6 := ll6'
     clear hh6' ll6'
     have hS := hS2
     clear hS2
     generalize w0.alloc (Obj.cells #[.int .i64 k2, .int .i64 s2, .int .i64 g2, .int .i64 p2] 43) = w1 at *
     generalize w0.heap.size = b4 at *
     try clear w0
     obtain ⟨w0, rfl⟩ : ∃ x, x = w1 := ⟨_, rfl⟩
     refine wpAnyH_take (i := 5) (v := ?_) rfl (by kernel_rfl) (by kernel_rfl) (by kernel_rfl) (hQp 14 _) (Or.inl ⟨by rfl, ?_⟩) hS ?_
     rotate_left 1
     · intro w hw; refine build_run _ _ 13 b4 _ ?_ ?_ <;> rfl
     try simp only [Act.put, List.setIfInBounds_toArray, List.set_cons_zero, List.set_cons_succ]
     refine wpAnyH_ready (rs := [7]) (by kernel_rfl) (by simp) ?_
     refine AllReadyH.cons rfl (fun K hK => ?_) AllReadyH.nil
     ·
      go_simp
      refine hK.out _ _ ?_ (fun _ => ?_)
      · exact hS.alloc (Obj.cells (entL 0 (.slice none 0 0) (fun _ => 0)).toArray 28)
      clear hK K
      try simp only [Act.put, List.setIfInBounds_toArray, List.set_cons_zero, List.set_cons_succ]
      have hS2 := hS.alloc (Obj.cells (entL 0 (.slice none 0 0) (fun _ => 0)).toArray 28)
      have gg7 := hS.sz
      have hh7 := there_box w0
      have ll7 : w0.heap.size < (w0.alloc (Obj.cells (entL 0 (.slice none 0 0) (fun _ => 0)).toArray 28)).heap.size := by simp
      have hh1' := hh1.block (Below.heap_alloc w0 (Obj.cells (entL 0 (.slice none 0 0) (fun _ => 0)).toArray 28) b1 ll1)
      have ll1' : b1 < (w0.alloc (Obj.cells (entL 0 (.slice none 0 0) (fun _ => 0)).toArray 28)).heap.size := by simp; omega
      have nn71 : w0.heap.size ≠ b1 := by omega
      have hh6' := there_block hh6 (Below.heap_alloc w0 (Obj.cells (entL 0 (.slice none 0 0) (fun _ => 0)).toArray 28) b6 ll6)
      have ll6' : b6 < (w0.alloc (Obj.cells (entL 0 (.slice none 0 0) (fun _ => 0)).toArray 28)).heap.size := by simp; omega
      have nn76 : w0.heap.size ≠ b6 := by omega
      have hh4' := hh4.block (Below.heap_alloc w0 (Obj.cells (entL 0 (.slice none 0 0) (fun _ => 0)).toArray 28) b4 ll4)
      have ll4' : b4 < (w0.alloc (Obj.cells (entL 0 (.slice none 0 0) (fun _ => 0)).toArray 28)).heap.size := by simp; omega
      have nn74 : w0.heap.size ≠ b4 := by omega
      clear hS hh1 ll1 hh6 ll6 hh4 ll4
      have hh1 := hh1'
      have ll1 := ll1'
      clear hh1' ll1'
      have hh6 := hh6'
      have ll6 := ll6'
      clear hh6' ll6'
      have hh4 := hh4'
      have ll4 := ll4'
      clear hh4' ll4'
      have hS := hS2
      clear hS2
      generalize w0.alloc (Obj.cells (entL 0 (.slice none 0 0) (fun _ => 0)).toArray 28) = w1 at *
      generalize w0.heap.size = b7 at *
      try clear w0
      obtain ⟨w0, rfl⟩ : ∃ x, x = w1 := ⟨_, rfl⟩
      refine wpAnyH_ready (rs := [8]) (by kernel_rfl) (by simp) ?_
      refine AllReadyH.cons rfl (fun K hK => ?_) AllReadyH.nil
      ·
       rw [if_pos (by rfl)]
       refine wp_store_mid 28 _ _ rfl b6 0 (entL 0 (.slice (some ⟨b1, 0, none⟩) 1 1) (fun _ => 0)).toArray rfl rfl (by rw [List.size_toArray, entL_len]; exact hh6) (by rw [List.size_toArray]; exact size_ent _ _ _) (entL_one _ _ _ _ _) ?_
       rw [show (entL 0 (.slice (some ⟨b1, 0, none⟩) 1 1) (fun _ => 0)).toArray.toList = (entL 0 (.slice (some ⟨b1, 0, none⟩) 1 1) (fun _ => 0)) from rfl]
       have hS2 := hS.store b6 gg6 (entL 0 (.slice (some ⟨b1, 0, none⟩) 1 1) (fun _ => 0))
       refine hK.out _ _ hS2 (fun _ => ?_)
       clear hK K
       try simp only [Act.put, List.setIfInBounds_toArray, List.set_cons_zero, List.set_cons_succ]
       have mm6 := entAt_stored hh6 0 (.slice (some ⟨b1, 0, none⟩) 1 1) (fun _ => 0)
       have hh1' := hh1.block (setCells_other b6 b1 (by omega) (entL 0 (.slice (some ⟨b1, 0, none⟩) 1 1) (fun _ => 0)) 0 w0)
       have hh4' := hh4.block (setCells_other b6 b4 (by omega) (entL 0 (.slice (some ⟨b1, 0, none⟩) 1 1) (fun _ => 0)) 0 w0)
       have hh7' := there_block hh7 (setCells_other b6 b7 (by omega) (entL 0 (.slice (some ⟨b1, 0, none⟩) 1 1) (fun _ => 0)) 0 w0)
       have ll1' : b1 < (w0.setCells b6 0 (entL 0 (.slice (some ⟨b1, 0, none⟩) 1 1) (fun _ => 0))).heap.size := by rw [setCells_size]; exact ll1
       have ll4' : b4 < (w0.setCells b6 0 (entL 0 (.slice (some ⟨b1, 0, none⟩) 1 1) (fun _ => 0))).heap.size := by rw [setCells_size]; exact ll4
       have ll6' : b6 < (w0.setCells b6 0 (entL 0 (.slice (some ⟨b1, 0, none⟩) 1 1) (fun _ => 0))).heap.size := by rw [setCells_size]; exact ll6
       have ll7' : b7 < (w0.setCells b6 0 (entL 0 (.slice (some ⟨b1, 0, none⟩) 1 1) (fun _ => 0))).heap.size := by rw [setCells_size]; exact ll7
       clear hS hh6 hh1 hh4 hh7 ll1 ll4 ll6 ll7
       have hh1 := hh1'
       clear hh1'
       have hh4 := hh4'
       clear hh4'
       have hh7 := hh7'
       clear hh7'
       have ll1 := ll1'
       clear ll1'
       have ll4 := ll4'
       clear ll4'
       have ll6 := ll6'
       clear ll6'
       have ll7 := ll7'
       clear ll7'
       have hS := hS2
       clear hS2
       generalize w0.setCells b6 0 (entL 0 (.slice (some ⟨b1, 0, none⟩) 1 1) (fun _ => 0)) = w1 at *
       try clear w0
       obtain ⟨w0, rfl⟩ : ∃ x, x = w1 := ⟨_, rfl⟩
       refine wpAnyH_ready (rs := [9]) (by kernel_rfl) (by simp) ?_
       refine AllReadyH.cons rfl (fun K hK => ?_) AllReadyH.nil
       ·
        rw [if_pos (by rfl)]
        refine wp_store_mid 28 _ _ rfl b7 0 (entL 0 (.slice (some ⟨b4, 0, none⟩) 1 1) (fun _ => 0)).toArray rfl rfl (by rw [List.size_toArray, entL_len]; exact hh7) (by rw [List.size_toArray]; exact size_ent _ _ _) (entL_one _ _ _ _ _) ?_
        rw [show (entL 0 (.slice (some ⟨b4, 0, none⟩) 1 1) (fun _ => 0)).toArray.toList = (entL 0 (.slice (some ⟨b4, 0, none⟩) 1 1) (fun _ => 0)) from rfl]
        have hS2 := hS.store b7 gg7 (entL 0 (.slice (some ⟨b4, 0, none⟩) 1 1) (fun _ => 0))
        refine hK.out _ _ hS2 (fun _ => ?_)
        clear hK K
        try simp only [Act.put, List.setIfInBounds_toArray, List.set_cons_zero, List.set_cons_succ]
        have mm7 := entAt_stored hh7 0 (.slice (some ⟨b4, 0, none⟩) 1 1) (fun _ => 0)
        have hh1' := hh1.block (setCells_other b7 b1 (by omega) (entL 0 (.slice (some ⟨b4, 0, none⟩) 1 1) (fun _ => 0)) 0 w0)
        have hh4' := hh4.block (setCells_other b7 b4 (by omega) (entL 0 (.slice (some ⟨b4, 0, none⟩) 1 1) (fun _ => 0)) 0 w0)
        have mm6' := mm6.block (setCells_other b7 b6 (by omega) (entL 0 (.slice (some ⟨b4, 0, none⟩) 1 1) (fun _ => 0)) 0 w0)
        have ll1' : b1 < (w0.setCells b7 0 (entL 0 (.slice (some ⟨b4, 0, none⟩) 1 1) (fun _ => 0))).heap.size := by rw [setCells_size]; exact ll1
        have ll4' : b4 < (w0.setCells b7 0 (entL 0 (.slice (some ⟨b4, 0, none⟩) 1 1) (fun _ => 0))).heap.size := by rw [setCells_size]; exact ll4
        have ll6' : b6 < (w0.setCells b7 0 (entL 0 (.slice (some ⟨b4, 0, none⟩) 1 1) (fun _ => 0))).heap.size := by rw [setCells_size]; exact ll6
        have ll7' : b7 < (w0.setCells b7 0 (entL 0 (.slice (some ⟨b4, 0, none⟩) 1 1) (fun _ => 0))).heap.size := by rw [setCells_size]; exact ll7
        clear hS hh7 hh1 hh4 mm6 ll1 ll4 ll6 ll7
        have hh1 := hh1'
        clear hh1'
        have hh4 := hh4'
        clear hh4'
        have mm6 := mm6'
        clear mm6'
        have ll1 := ll1'
        clear ll1'
        have ll4 := ll4'
        clear ll4'
        have ll6 := ll6'
        clear ll6'
        have ll7 := ll7'
        clear ll7'
        have hS := hS2
        clear hS2
        generalize w0.setCells b7 0 (entL 0 (.slice (some ⟨b4, 0, none⟩) 1 1) (fun _ => 0)) = w1 at *
        try clear w0
        obtain ⟨w0, rfl⟩ : ∃ x, x = w1 := ⟨_, rfl⟩
        refine wpAnyH_done (by kernel_rfl) ?_ _
        exact hQn _ _ _ _ _ _ b1 b4 b6 b7 w0 hh1 hh4 mm6 mm7 hS
    ·
     go_simp
     refine hK.out _ _ ?_ (fun _ => ?_)
     · exact hS.alloc (Obj.cells (entL 0 (.slice none 0 0) (fun _ => 0)).toArray 28)
     clear hK K
     try simp only [Act.put, List.setIfInBounds_toArray, List.set_cons_zero, List.set_cons_succ]
     have hS2 := hS.alloc (Obj.cells (entL 0 (.slice none 0 0) (fun _ => 0)).toArray 28)
     have gg7 := hS.sz
     have hh7 := there_box w0
     have ll7 : w0.heap.size < (w0.alloc (Obj.cells (entL 0 (.slice none 0 0) (fun _ => 0)).toArray 28)).heap.size := by simp
     have hh1' := hh1.block (Below.heap_alloc w0 (Obj.cells (entL 0 (.slice none 0 0) (fun _ => 0)).toArray 28) b1 ll1)
     have ll1' : b1 < (w0.alloc (Obj.cells (entL 0 (.slice none 0 0) (fun _ => 0)).toArray 28)).heap.size := by simp; omega
     have nn71 : w0.heap.size ≠ b1 := by omega
     have hh6' := there_block hh6 (Below.heap_alloc w0 (Obj.cells (entL 0 (.slice none 0 0) (fun _ => 0)).toArray 28) b6 ll6)
     have ll6' : b6 < (w0.alloc (Obj.cells (entL 0 (.slice none 0 0) (fun _ => 0)).toArray 28)).heap.size := by simp; omega
     have nn76 : w0.heap.size ≠ b6 := by omega
     clear hS hh1 ll1 hh6 ll6
     have hh1 := hh1'
     have ll1 := ll1'
     clear hh1' ll1'
     have hh6 := hh6'
     have ll6 := ll6'
     clear hh6' ll6'
     have hS := hS2
     clear hS2
     generalize w0.alloc (Obj.cells (entL 0 (.slice none 0 0) (fun _ => 0)).toArray 28) = w1 at *
     generalize w0.heap.size = b7 at *
     try clear w0
     obtain ⟨w0, rfl⟩ : ∃ x, x = w1 := ⟨_, rfl⟩
     refine wpAnyH_ready (rs := [4, 8]) (by kernel_rfl) (by simp) ?_
     refine AllReadyH.cons rfl (fun K hK => ?_) (AllReadyH.cons rfl (fun K hK => ?_) AllReadyH.nil)
     ·
      go_simp
      refine hK.out _ _ ?_ (fun _ => ?_)
      · exact hS.alloc (Obj.cells #[.int .i64 k2, .int .i64 s2, .int .i64 g2, .int .i64 p2] 43)
      clear hK K
      try simp only [Act.put, List.setIfInBounds_toArray, List.set_cons_zero, List.set_cons_succ]
      have hS2 := hS.alloc (Obj.cells #[.int .i64 k2, .int .i64 s2, .int .i64 g2, .int .i64 p2] 43)
      have gg4 := hS.sz
      have hh4 := evsAt_box k2 s2 g2 p2 w0
      have ll4 : w0.heap.size < (w0.alloc (Obj.cells #[.int .i64 k2, .int .i64 s2, .int .i64 g2, .int .i64 p2] 43)).heap.size := by simp
      have hh1' := hh1.block (Below.heap_alloc w0 (Obj.cells #[.int .i64 k2, .int .i64 s2, .int .i64 g2, .int .i64 p2] 43) b1 ll1)
      have ll1' : b1 < (w0.alloc (Obj.cells #[.int .i64 k2, .int .i64 s2, .int .i64 g2, .int .i64 p2] 43)).heap.size := by simp; omega
      have nn41 : w0.heap.size ≠ b1 := by omega
      have hh6' := there_block hh6 (Below.heap_alloc w0 (Obj.cells #[.int .i64 k2, .int .i64 s2, .int .i64 g2, .int .i64 p2] 43) b6 ll6)
      have ll6' : b6 < (w0.alloc (Obj.cells #[.int .i64 k2, .int .i64 s2, .int .i64 g2, .int .i64 p2] 43)).heap.size := by simp; omega
      have nn46 : w0.heap.size ≠ b6 := by omega
      have hh7' := there_block hh7 (Below.heap_alloc w0 (Obj.cells #[.int .i64 k2, .int .i64 s2, .int .i64 g2, .int .i64 p2] 43) b7 ll7)
      have ll7' : b7 < (w0.alloc (Obj.cells #[.int .i64 k2, .int .i64 s2, .int .i64 g2, .int .i64 p2] 43)).heap.size := by simp; omega
      have nn47 : w0.heap.size ≠ b7 := by omega
      clear hS hh1 ll1 hh6 ll6 hh7 ll7
      have hh1 := hh1'
      have ll1 := ll1'
      clear hh1' ll1'
      have hh6 := hh6'
      have ll6 := ll6'
      clear hh6' ll6'
      have hh7 := hh7'
      have ll7 := ll7'
      clear hh7' ll7'
      have hS := hS2
      clear hS2
      generalize w0.alloc (Obj.cells #[.int .i64 k2, .int .i64 s2, .int .i64 g2, .int .i64 p2] 43) = w1 at *
      generalize w0.heap.size = b4 at *
      try clear w0
      obtain ⟨w0, rfl⟩ : ∃ x, x = w1 := ⟨_, rfl⟩
      refine wpAnyH_take (i := 5) (v := ?_) rfl (by kernel_rfl) (by kernel_rfl) (by kernel_rfl) (hQp 14 _) (Or.inl ⟨by rfl, ?_⟩) hS ?_
      rotate_left 1
      · intro w hw; refine build_run _ _ 13 b4 _ ?_ ?_ <;> rfl
      try simp only [Act.put, List.setIfInBounds_toArray, List.set_cons_zero, List.set_cons_succ]
      refine wpAnyH_ready (rs := [8]) (by kernel_rfl) (by simp) ?_
      refine AllReadyH.cons rfl (fun K hK => ?_) AllReadyH.nil
      ·
       rw [if_pos (by rfl)]
       refine wp_store_mid 28 _ _ rfl b6 0 (entL 0 (.slice (some ⟨b1, 0, none⟩) 1 1) (fun _ => 0)).toArray rfl rfl (by rw [List.size_toArray, entL_len]; exact hh6) (by rw [List.size_toArray]; exact size_ent _ _ _) (entL_one _ _ _ _ _) ?_
       rw [show (entL 0 (.slice (some ⟨b1, 0, none⟩) 1 1) (fun _ => 0)).toArray.toList = (entL 0 (.slice (some ⟨b1, 0, none⟩) 1 1) (fun _ => 0)) from rfl]
       have hS2 := hS.store b6 gg6 (entL 0 (.slice (some ⟨b1, 0, none⟩) 1 1) (fun _ => 0))
       refine hK.out _ _ hS2 (fun _ => ?_)
       clear hK K
       try simp only [Act.put, List.setIfInBounds_toArray, List.set_cons_zero, List.set_cons_succ]
       have mm6 := entAt_stored hh6 0 (.slice (some ⟨b1, 0, none⟩) 1 1) (fun _ => 0)
       have hh1' := hh1.block (setCells_other b6 b1 (by omega) (entL 0 (.slice (some ⟨b1, 0, none⟩) 1 1) (fun _ => 0)) 0 w0)
       have hh4' := hh4.block (setCells_other b6 b4 (by omega) (entL 0 (.slice (some ⟨b1, 0, none⟩) 1 1) (fun _ => 0)) 0 w0)
       have hh7' := there_block hh7 (setCells_other b6 b7 (by omega) (entL 0 (.slice (some ⟨b1, 0, none⟩) 1 1) (fun _ => 0)) 0 w0)
       have ll1' : b1 < (w0.setCells b6 0 (entL 0 (.slice (some ⟨b1, 0, none⟩) 1 1) (fun _ => 0))).heap.size := by rw [setCells_size]; exact ll1
       have ll4' : b4 < (w0.setCells b6 0 (entL 0 (.slice (some ⟨b1, 0, none⟩) 1 1) (fun _ => 0))).heap.size := by rw [setCells_size]; exact ll4
       have ll6' : b6 < (w0.setCells b6 0 (entL 0 (.slice (some ⟨b1, 0, none⟩) 1 1) (fun _ => 0))).heap.size := by rw [setCells_size]; exact ll6
       have ll7' : b7 < (w0.setCells b6 0 (entL 0 (.slice (some ⟨b1, 0, none⟩) 1 1) (fun _ => 0))).heap.size := by rw [setCells_size]; exact ll7
       clear hS hh6 hh1 hh4 hh7 ll1 ll4 ll6 ll7
       have hh1 := hh1'
       clear hh1'
       have hh4 := hh4'
       clear hh4'
       have hh7 := hh7'
       clear hh7'
       have ll1 := ll1'
       clear ll1'
       have ll4 := ll4'
       clear ll4'
       have ll6 := ll6'
       clear ll6'
       have ll7 := ll7'
       clear ll7'
       have hS := hS2
       clear hS2
       generalize w0.setCells b6 0 (entL 0 (.slice (some ⟨b1, 0, none⟩) 1 1) (fun _ => 0)) = w1 at *
       try clear w0
       obtain ⟨w0, rfl⟩ : ∃ x, x = w1 := ⟨_, rfl⟩
       refine wpAnyH_ready (rs := [9]) (by kernel_rfl) (by simp) ?_
       refine AllReadyH.cons rfl (fun K hK => ?_) AllReadyH.nil
       ·
        rw [if_pos (by rfl)]
        refine wp_store_mid 28 _ _ rfl b7 0 (entL 0 (.slice (some ⟨b4, 0, none⟩) 1 1) (fun _ => 0)).toArray rfl rfl (by rw [List.size_toArray, entL_len]; exact hh7) (by rw [List.size_toArray]; exact size_ent _ _ _) (entL_one _ _ _ _ _) ?_
        rw [show (entL 0 (.slice (some ⟨b4, 0, none⟩) 1 1) (fun _ => 0)).toArray.toList = (entL 0 (.slice (some ⟨b4, 0, none⟩) 1 1) (fun _ => 0)) from rfl]
        have hS2 := hS.store b7 gg7 (entL 0 (.slice (some ⟨b4, 0, none⟩) 1 1) (fun _ => 0))
        refine hK.out _ _ hS2 (fun _ => ?_)
        clear hK K
        try simp only [Act.put, List.setIfInBounds_toArray, List.set_cons_zero, List.set_cons_succ]
        have mm7 := entAt_stored hh7 0 (.slice (some ⟨b4, 0, none⟩) 1 1) (fun _ => 0)
        have hh1' := hh1.block (setCells_other b7 b1 (by omega) (entL 0 (.slice (some ⟨b4, 0, none⟩) 1 1) (fun _ => 0)) 0 w0)
        have hh4' := hh4.block (setCells_other b7 b4 (by omega) (entL 0 (.slice (some ⟨b4, 0, none⟩) 1 1) (fun _ => 0)) 0 w0)
        have mm6' := mm6.block (setCells_other b7 b6 (by omega) (entL 0 (.slice (some ⟨b4, 0, none⟩) 1 1) (fun _ => 0)) 0 w0)
        have ll1' : b1 < (w0.setCells b7 0 (entL 0 (.slice (some ⟨b4, 0, none⟩) 1 1) (fun _ => 0))).heap.size := by rw [setCells_size]; exact ll1
        have ll4' : b4 < (w0.setCells b7 0 (entL 0 (.slice (some ⟨b4, 0, none⟩) 1 1) (fun _ => 0))).heap.size := by rw [setCells_size]; exact ll4
        have ll6' : b6 < (w0.setCells b7 0 (entL 0 (.slice (some ⟨b4, 0, none⟩) 1 1) (fun _ => 0))).heap.size := by rw [setCells_size]; exact ll6
        have ll7' : b7 < (w0.setCells b7 0 (entL 0 (.slice (some ⟨b4, 0, none⟩) 1 1) (fun _ => 0))).heap.size := by rw [setCells_size]; exact ll7
        clear hS hh7 hh1 hh4 mm6 ll1 ll4 ll6 ll7
        have hh1 := hh1'
        clear hh1'
        have hh4 := hh4'
        clear hh4'
        have mm6 := mm6'
        clear mm6'
        have ll1 := ll1'
        clear ll1'
        have ll4 := ll4'
        clear ll4'
        have ll6 := ll6'
        clear ll6'
        have ll7 := ll7'
        clear ll7'
        have hS := hS2
        clear hS2
        generalize w0.setCells b7 0 (entL 0 (.slice (some ⟨b4, 0, none⟩) 1 1) (fun _ => 0)) = w1 at *
        try clear w0
        obtain ⟨w0, rfl⟩ : ∃ x, x = w1 := ⟨_, rfl⟩
        refine wpAnyH_done (by kernel_rfl) ?_ _
        exact hQn _ _ _ _ _ _ b1 b4 b6 b7 w0 hh1 hh4 mm6 mm7 hS
     ·
      rw [if_pos (by rfl)]
      refine wp_store_mid 28 _ _ rfl b6 0 (entL 0 (.slice (some ⟨b1, 0, none⟩) 1 1) (fun _ => 0)).toArray rfl rfl (by rw [List.size_toArray, entL_len]; exact hh6) (by rw [List.size_toArray]; exact size_ent _ _ _) (entL_one _ _ _ _ _) ?_
      rw [show (entL 0 (.slice (some ⟨b1, 0, none⟩) 1 1) (fun _ => 0)).toArray.toList = (entL 0 (.slice (some ⟨b1, 0, none⟩) 1 1) (fun _ => 0)) from rfl]
      have hS2 := hS.store b6 gg6 (entL 0 (.slice (some ⟨b1, 0, none⟩) 1 1) (fun _ => 0))
      refine hK.out _ _ hS2 (fun _ => ?_)
      clear hK K
      try simp only [Act.put, List.setIfInBounds_toArray, List.set_cons_zero, List.set_cons_succ]
      have mm6 := entAt_stored hh6 0 (.slice (some ⟨b1, 0, none⟩) 1 1) (fun _ => 0)
      have hh1' := hh1.block (setCells_other b6 b1 (by omega) (entL 0 (.slice (some ⟨b1, 0, none⟩) 1 1) (fun _ => 0)) 0 w0)
      have hh7' := there_block hh7 (setCells_other b6 b7 (by omega) (entL 0 (.slice (some ⟨b1, 0, none⟩) 1 1) (fun _ => 0)) 0 w0)
      have ll1' : b1 < (w0.setCells b6 0 (entL 0 (.slice (some ⟨b1, 0, none⟩) 1 1) (fun _ => 0))).heap.size := by rw [setCells_size]; exact ll1
      have ll6' : b6 < (w0.setCells b6 0 (entL 0 (.slice (some ⟨b1, 0, none⟩) 1 1) (fun _ => 0))).heap.size := by rw [setCells_size]; exact ll6
      have ll7' : b7 < (w0.setCells b6 0 (entL 0 (.slice (some ⟨b1, 0, none⟩) 1 1) (fun _ => 0))).heap.size := by rw [setCells_size]; exact ll7
      clear hS hh6 hh1 hh7 ll1 ll6 ll7
      have hh1 := hh1'
      clear hh1'
      have hh7 := hh7'
      clear hh7'
      have ll1 := ll1'
      clear ll1'
      have ll6 := ll6'
      clear ll6'
      have ll7 := ll7'
      clear ll7'
      have hS := hS2
      clear hS2
      generalize w0.setCells b6 0 (entL 0 (.slice (some ⟨b1, 0, none⟩) 1 1) (fun _ => 0)) = w1 at *
      try clear w0
      obtain ⟨w0, rfl⟩ : ∃ x, x = w1 := ⟨_, rfl⟩
      refine wpAnyH_ready (rs := [4]) (by kernel_rfl) (by simp) ?_
      refine AllReadyH.cons rfl (fun K hK => ?_) AllReadyH.nil
      ·
       go_simp
       refine hK.out _ _ ?_ (fun _ => ?_)
       · exact hS.alloc (Obj.cells #[.int .i64 k2, .int .i64 s2, .int .i64 g2, .int .i64 p2] 43)
       clear hK K
       try simp only [Act.put, List.setIfInBounds_toArray, List.set_cons_zero, List.set_cons_succ]
       have hS2 := hS.alloc (Obj.cells #[.int .i64 k2, .int .i64 s2, .int .i64 g2, .int .i64 p2] 43)
       have gg4 := hS.sz
       have hh4 := evsAt_box k2 s2 g2 p2 w0
       have ll4 : w0.heap.size < (w0.alloc (Obj.cells #[.int .i64 k2, .int .i64 s2, .int .i64 g2, .int .i64 p2] 43)).heap.size := by simp
       have hh1' := hh1.block (Below.heap_alloc w0 (Obj.cells #[.int .i64 k2, .int .i64 s2, .int .i64 g2, .int .i64 p2] 43) b1 ll1)
       have ll1' : b1 < (w0.alloc (Obj.cells #[.int .i64 k2, .int .i64 s2, .int .i64 g2, .int .i64 p2] 43)).heap.size := by simp; omega
       have nn41 : w0.heap.size ≠ b1 := by omega
       have mm6' := mm6.block (Below.heap_alloc w0 (Obj.cells #[.int .i64 k2, .int .i64 s2, .int .i64 g2, .int .i64 p2] 43) b6 ll6)
       have ll6' : b6 < (w0.alloc (Obj.cells #[.int .i64 k2, .int .i64 s2, .int .i64 g2, .int .i64 p2] 43)).heap.size := by simp; omega
       have nn46 : w0.heap.size ≠ b6 := by omega
       have hh7' := there_block hh7 (Below.heap_alloc w0 (Obj.cells #[.int .i64 k2, .int .i64 s2, .int .i64 g2, .int .i64 p2] 43) b7 ll7)
       have ll7' : b7 < (w0.alloc (Obj.cells #[.int .i64 k2, .int .i64 s2, .int .i64 g2, .int .i64 p2] 43)).heap.size := by simp; omega
       have nn47 : w0.heap.size ≠ b7 := by omega
       clear hS hh1 ll1 mm6 ll6 hh7 ll7
       have hh1 := hh1'
       have ll1 := ll1'
       clear hh1' ll1'
       have mm6 := mm6'
       have ll6 := ll6'
       clear mm6' ll6'
       have hh7 := hh7'
       have ll7 := ll7'
       clear hh7' ll7'
       have hS := hS2
       clear hS2
       generalize w0.alloc (Obj.cells #[.int .i64 k2, .int .i64 s2, .int .i64 g2, .int .i64 p2] 43) = w1 at *
       generalize w0.heap.size = b4 at *
       try clear w0
       obtain ⟨w0, rfl⟩ : ∃ x, x = w1 := ⟨_, rfl⟩
       refine wpAnyH_take (i := 5) (v := ?_) rfl (by kernel_rfl) (by kernel_rfl) (by kernel_rfl) (hQp 14 _) (Or.inl ⟨by rfl, ?_⟩) hS ?_
       rotate_left 1
       · intro w hw; refine build_run _ _ 13 b4 _ ?_ ?_ <;> rfl
       try simp only [Act.put, List.setIfInBounds_toArray, List.set_cons_zero, List.set_cons_succ]
       refine wpAnyH_ready (rs := [9]) (by kernel_rfl) (by simp) ?_
       refine AllReadyH.cons rfl (fun K hK => ?_) AllReadyH.nil
       ·
        rw [if_pos (by rfl)]
        refine wp_store_mid 28 _ _ rfl b7 0 (entL 0 (.slice (some ⟨b4, 0, none⟩) 1 1) (fun _ => 0)).toArray rfl rfl (by rw [List.size_toArray, entL_len]; exact hh7) (by rw [List.size_toArray]; exact size_ent _ _ _) (entL_one _ _ _ _ _) ?_
        rw [show (entL 0 (.slice (some ⟨b4, 0, none⟩) 1 1) (fun _ => 0)).toArray.toList = (entL 0 (.slice (some ⟨b4, 0, none⟩) 1 1) (fun _ => 0)) from rfl]
        have hS2 := hS.store b7 gg7 (entL 0 (.slice (some ⟨b4, 0, none⟩) 1 1) (fun _ => 0))
        refine hK.out _ _ hS2 (fun _ => ?_)
        clear hK K
        try simp only [Act.put, List.setIfInBounds_toArray, List.set_cons_zero, List.set_cons_succ]
        have mm7 := entAt_stored hh7 0 (.slice (some ⟨b4, 0, none⟩) 1 1) (fun _ => 0)
        have hh1' := hh1.block (setCells_other b7 b1 (by omega) (entL 0 (.slice (some ⟨b4, 0, none⟩) 1 1) (fun _ => 0)) 0 w0)
        have hh4' := hh4.block (setCells_other b7 b4 (by omega) (entL 0 (.slice (some ⟨b4, 0, none⟩) 1 1) (fun _ => 0)) 0 w0)
        have mm6' := mm6.block (setCells_other b7 b6 (by omega) (entL 0 (.slice (some ⟨b4, 0, none⟩) 1 1) (fun _ => 0)) 0 w0)
        have ll1' : b1 < (w0.setCells b7 0 (entL 0 (.slice (some ⟨b4, 0, none⟩) 1 1) (fun _ => 0))).heap.size := by rw [setCells_size]; exact ll1
        have ll4' : b4 < (w0.setCells b7 0 (entL 0 (.slice (some ⟨b4, 0, none⟩) 1 1) (fun _ => 0))).heap.size := by rw [setCells_size]; exact ll4
        have ll6' : b6 < (w0.setCells b7 0 (entL 0 (.slice (some ⟨b4, 0, none⟩) 1 1) (fun _ => 0))).heap.size := by rw [setCells_size]; exact ll6
        have ll7' : b7 < (w0.setCells b7 0 (entL 0 (.slice (some ⟨b4, 0, none⟩) 1 1) (fun _ => 0))).heap.size := by rw [setCells_size]; exact ll7
        clear hS hh7 hh1 hh4 mm6 ll1 ll4 ll6 ll7
        have hh1 := hh1'
        clear hh1'
        have hh4 := hh4'
        clear hh4'
        have mm6 := mm6'
        clear mm6'
        have ll1 := ll1'
        clear ll1'
        have ll4 := ll4'
        clear ll4'
        have ll6 := ll6'
        clear ll6'
        have ll7 := ll7'
        clear ll7'
        have hS := hS2
        clear hS2
        generalize w0.setCells b7 0 (entL 0 (.slice (some ⟨b4, 0, none⟩) 1 1) (fun _ => 0)) = w1 at *
        try clear w0
        obtain ⟨w0, rfl⟩ : ∃ x, x = w1 := ⟨_, rfl⟩
        refine wpAnyH_done (by kernel_rfl) ?_ _
        exact hQn _ _ _ _ _ _ b1 b4 b6 b7 w0 hh1 hh4 mm6 mm7 hS
   ·
    go_simp
    refine hK.out _ _ ?_ (fun _ => ?_)
    · exact hS.alloc (Obj.cells (entL 0 (.slice none 0 0) (fun _ => 0)).toArray 28)
    clear hK K
    try simp only [Act.put, List.setIfInBounds_toArray, List.set_cons_zero, List.set_cons_succ]
    have hS2 := hS.alloc (Obj.cells (entL 0 (.slice none 0 0) (fun _ => 0)).toArray 28)
    have gg7 := hS.sz
    have hh7 := there_box w0
    have ll7 : w0.heap.size < (w0.alloc (Obj.cells (entL 0 (.slice none 0 0) (fun _ => 0)).toArray 28)).heap.size := by simp
    have hh1' := hh1.block (Below.heap_alloc w0 (Obj.cells (entL 0 (.slice none 0 0) (fun _ => 0)).toArray 28) b1 ll1)
    have ll1' : b1 < (w0.alloc (Obj.cells (entL 0 (.slice none 0 0) (fun _ => 0)).toArray 28)).heap.size := by simp; omega
    have nn71 : w0.heap.size ≠ b1 := by omega
    clear hS hh1 ll1
    have hh1 := hh1'
    have ll1 := ll1'
    clear hh1' ll1'
    have hS := hS2
    clear hS2
    generalize w0.alloc (Obj.cells (entL 0 (.slice none 0 0) (fun _ => 0)).toArray 28) = w1 at *
    generalize w0.heap.size = b7 at *
    try clear w0
    obtain ⟨w0, rfl⟩ : ∃ x, x = w1 := ⟨_, rfl⟩
    refine wpAnyH_ready (rs := [4, 6]) (by kernel_rfl) (by simp) ?_
    refine AllReadyH.cons rfl (fun K hK => ?_) (AllReadyH.cons rfl (fun K hK => ?_) AllReadyH.nil)
    ·
     go_simp
     refine hK.out _ _ ?_ (fun _ => ?_)
     · exact hS.alloc (Obj.cells #[.int .i64 k2, .int .i64 s2, .int .i64 g2, .int .i64 p2] 43)
     clear hK K
     try simp only [Act.put, List.setIfInBounds_toArray, List.set_cons_zero, List.set_cons_succ]
     have hS2 := hS.alloc (Obj.cells #[.int .i64 k2, .int .i64 s2, .int .i64 g2, .int .i64 p2] 43)
     have gg4 := hS.sz
     have hh4 := evsAt_box k2 s2 g2 p2 w0
     have ll4 : w0.heap.size < (w0.alloc (Obj.cells #[.int .i64 k2, .int .i64 s2, .int .i64 g2, .int .i64 p2] 43)).heap.size := by simp
     have hh1' := hh1.block (Below.heap_alloc w0 (Obj.cells #[.int .i64 k2, .int .i64 s2, .int .i64 g2, .int .i64 p2] 43) b1 ll1)
     have ll1' : b1 < (w0.alloc (Obj.cells #[.int .i64 k2, .int .i64 s2, .int .i64 g2, .int .i64 p2] 43)).heap.size := by simp; omega
     have nn41 : w0.heap.size ≠ b1 := by omega
     have hh7' := there_block hh7 (Below.heap_alloc w0 (Obj.cells #[.int .i64 k2, .int .i64 s2, .int .i64 g2, .int .i64 p2] 43) b7 ll7)
     have ll7' : b7 < (w0.alloc (Obj.cells #[.int .i64 k2, .int .i64 s2, .int .i64 g2, .int .i64 p2] 43)).heap.size := by simp; omega
     have nn47 : w0.heap.size ≠ b7 := by omega
     clear hS hh1 ll1 hh7 ll7
     have hh1 := hh1'
     have ll1 := ll1'
     clear hh1' ll1'
     have hh7 := hh7'
     have ll7 := ll7'
     clear hh7' ll7'
     have hS := hS2
     clear hS2
     generalize w0.alloc (Obj.cells #[.int .i64 k2, .int .i64 s2, .int .i64 g2, .int .i64 p2] 43) = w1 at *
     generalize w0.heap.size = b4 at *
     try clear w0
     obtain ⟨w0, rfl⟩ : ∃ x, x = w1 := ⟨_, rfl⟩
     refine wpAnyH_take (i := 5) (v := ?_) rfl (by kernel_rfl) (by kernel_rfl) (by kernel_rfl) (hQp 14 _) (Or.inl ⟨by rfl, ?_⟩) hS ?_
     rotate_left 1
     · intro w hw; refine build_run _ _ 13 b4 _ ?_ ?_ <;> rfl
     try simp only [Act.put, List.setIfInBounds_toArray, List.set_cons_zero, List.set_cons_succ]
     refine wpAnyH_ready (rs := [6]) (by kernel_rfl) (by simp) ?_
     refine AllReadyH.cons rfl (fun K hK => ?_) AllReadyH.nil
     ·
      go_simp
      refine hK.out _ _ ?_ (fun _ => ?_)
      · exact hS.alloc (Obj.cells (entL 0 (.slice none 0 0) (fun _ => 0)).toArray 28)
      clear hK K
      try simp only [Act.put, List.setIfInBounds_toArray, List.set_cons_zero, List.set_cons_succ]
      have hS2 := hS.alloc (Obj.cells (entL 0 (.slice none 0 0) (fun _ => 0)).toArray 28)
      have gg6 := hS.sz
      have hh6 := there_box w0
      have ll6 : w0.heap.size < (w0.alloc (Obj.cells (entL 0 (.slice none 0 0) (fun _ => 0)).toArray 28)).heap.size := by simp
      have hh1' := hh1.block (Below.heap_alloc w0 (Obj.cells (entL 0 (.slice none 0 0) (fun _ => 0)).toArray 28) b1 ll1)
      have ll1' : b1 < (w0.alloc (Obj.cells (entL 0 (.slice none 0 0) (fun _ => 0)).toArray 28)).heap.size := by simp; omega
      have nn61 : w0.heap.size ≠ b1 := by omega
      have hh7' := there_block hh7 (Below.heap_alloc w0 (Obj.cells (entL 0 (.slice none 0 0) (fun _ => 0)).toArray 28) b7 ll7)
      have ll7' : b7 < (w0.alloc (Obj.cells (entL 0 (.slice none 0 0) (fun _ => 0)).toArray 28)).heap.size := by simp; omega
      have nn67 : w0.heap.size ≠ b7 := by omega
      have hh4' := hh4.block (Below.heap_alloc w0 (Obj.cells (entL 0 (.slice none 0 0) (fun _ => 0)).toArray 28) b4 ll4)
      have ll4' : b4 < (w0.alloc (Obj.cells (entL 0 (.slice none 0 0) (fun _ => 0)).toArray 28)).heap.size := by simp; omega
      have nn64 : w0.heap.size ≠ b4 := by omega
      clear hS hh1 ll1 hh7 ll7 hh4 ll4
      have hh1 := hh1'
      have ll1 := ll1'
      clear hh1' ll1'
      have hh7 := hh7'
      have ll7 := ll7'
      clear hh7' ll7'
      have hh4 := hh4'
      have ll4 := ll4'
      clear hh4' ll4'
      have hS := hS2
      clear hS2
      generalize w0.alloc (Obj.cells (entL 0 (.slice none 0 0) (fun _ => 0)).toArray 28) = w1 at *
      generalize w0.heap.size = b6 at *
      try clear w0
      obtain ⟨w0, rfl⟩ : ∃ x, x = w1 := ⟨_, rfl⟩
      refine wpAnyH_ready (rs := [8]) (by kernel_rfl) (by simp) ?_
      refine AllReadyH.cons rfl (fun K hK => ?_) AllReadyH.nil
      ·
       rw [if_pos (by rfl)]
       refine wp_store_mid 28 _ _ rfl b6 0 (entL 0 (.slice (some ⟨b1, 0, none⟩) 1 1) (fun _ => 0)).toArray rfl rfl (by rw [List.size_toArray, entL_len]; exact hh6) (by rw [List.size_toArray]; exact size_ent _ _ _) (entL_one _ _ _ _ _) ?_
       rw [show (entL 0 (.slice (some ⟨b1, 0, none⟩) 1 1) (fun _ => 0)).toArray.toList = (entL 0 (.slice (some ⟨b1, 0, none⟩) 1 1) (fun _ => 0)) from rfl]
       have hS2 := hS.store b6 gg6 (entL 0 (.slice (some ⟨b1, 0, none⟩) 1 1) (fun _ => 0))
       refine hK.out _ _ hS2 (fun _ => ?_)
       clear hK K
       try simp only [Act.put, List.setIfInBounds_toArray, List.set_cons_zero, List.set_cons_succ]
       have mm6 := entAt_stored hh6 0 (.slice (some ⟨b1, 0, none⟩) 1 1) (fun _ => 0)
       have hh1' := hh1.block (setCells_other b6 b1 (by omega) (entL 0 (.slice (some ⟨b1, 0, none⟩) 1 1) (fun _ => 0)) 0 w0)
       have hh4' := hh4.block (setCells_other b6 b4 (by omega) (entL 0 (.slice (some ⟨b1, 0, none⟩) 1 1) (fun _ => 0)) 0 w0)
       have hh7' := there_block hh7 (setCells_other b6 b7 (by omega) (entL 0 (.slice (some ⟨b1, 0, none⟩) 1 1) (fun _ => 0)) 0 w0)
       have ll1' : b1 < (w0.setCells b6 0 (entL 0 (.slice (some ⟨b1, 0, none⟩) 1 1) (fun _ => 0))).heap.size := by rw [setCells_size]; exact ll1
       have ll4' : b4 < (w0.setCells b6 0 (entL 0 (.slice (some ⟨b1, 0, none⟩) 1 1) (fun _ => 0))).heap.size := by rw [setCells_size]; exact ll4
       have ll6' : b6 < (w0.setCells b6 0 (entL 0 (.slice (some ⟨b1, 0, none⟩) 1 1) (fun _ => 0))).heap.size := by rw [setCells_size]; exact ll6
       have ll7' : b7 < (w0.setCells b6 0 (entL 0 (.slice (some ⟨b1, 0, none⟩) 1 1) (fun _ => 0))).heap.size := by rw [setCells_size]; exact ll7
       clear hS hh6 hh1 hh4 hh7 ll1 ll4 ll6 ll7
       have hh1 := hh1'
       clear hh1'
       have hh4 := hh4'
       clear hh4'
       have hh7 := hh7'
       clear hh7'
       have ll1 := ll1'
       clear ll1'
       have ll4 := ll4'
       clear ll4'
       have ll6 := ll6'
       clear ll6'
       have ll7 := ll7'
       clear ll7'
       have hS := hS2
       clear hS2
       generalize w0.setCells b6 0 (entL 0 (.slice (some ⟨b1, 0, none⟩) 1 1) (fun _ => 0)) = w1 at *
       try clear w0
       obtain ⟨w0, rfl⟩ : ∃ x, x = w1 := ⟨_, rfl⟩
       refine wpAnyH_ready (rs := [9]) (by kernel_rfl) (by simp) ?_
       refine AllReadyH.cons rfl (fun K hK => ?_) AllReadyH.nil
       ·
        rw [if_pos (by rfl)]
        refine wp_store_mid 28 _ _ rfl b7 0 (entL 0 (.slice (some ⟨b4, 0, none⟩) 1 1) (fun _ => 0)).toArray rfl rfl (by rw [List.size_toArray, entL_len]; exact hh7) (by rw [List.size_toArray]; exact size_ent _ _ _) (entL_one _ _ _ _ _) ?_
        rw [show (entL 0 (.slice (some ⟨b4, 0, none⟩) 1 1) (fun _ => 0)).toArray.toList = (entL 0 (.slice (some ⟨b4, 0, none⟩) 1 1) (fun _ => 0)) from rfl]
        have hS2 := hS.store b7 gg7 (entL 0 (.slice (some ⟨b4, 0, none⟩) 1 1) (fun _ => 0))
        refine hK.out _ _ hS2 (fun _ => ?_)
        clear hK K
        try simp only [Act.put, List.setIfInBounds_toArray, List.set_cons_zero, List.set_cons_succ]
        have mm7 := entAt_stored hh7 0 (.slice (some ⟨b4, 0, none⟩) 1 1) (fun _ => 0)
        have hh1' := hh1.block (setCells_other b7 b1 (by omega) (entL 0 (.slice (some ⟨b4, 0, none⟩) 1 1) (fun _ => 0)) 0 w0)
        have hh4' := hh4.block (setCells_other b7 b4 (by omega) (entL 0 (.slice (some ⟨b4, 0, none⟩) 1 1) (fun _ => 0)) 0 w0)
        have mm6' := mm6.block (setCells_other b7 b6 (by omega) (entL 0 (.slice (some ⟨b4, 0, none⟩) 1 1) (fun _ => 0)) 0 w0)
        have ll1' : b1 < (w0.setCells b7 0 (entL 0 (.slice (some ⟨b4, 0, none⟩) 1 1) (fun _ => 0))).heap.size := by rw [setCells_size]; exact ll1
        have ll4' : b4 < (w0.setCells b7 0 (entL 0 (.slice (some ⟨b4, 0, none⟩) 1 1) (fun _ => 0))).heap.size := by rw [setCells_size]; exact ll4
        have ll6' : b6 < (w0.setCells b7 0 (entL 0 (.slice (some ⟨b4, 0, none⟩) 1 1) (fun _ => 0))).heap.size := by rw [setCells_size]; exact ll6
        have ll7' : b7 < (w0.setCells b7 0 (entL 0 (.slice (some ⟨b4, 0, none⟩) 1 1) (fun _ => 0))).heap.size := by rw [setCells_size]; exact ll7
        clear hS hh7 hh1 hh4 mm6 ll1 ll4 ll6 ll7
        have hh1 := hh1'
        clear hh1'
        have hh4 := hh4'
        clear hh4'
        have mm6 := mm6'
        clear mm6'
        have ll1 := ll1'
        clear ll1'
        have ll4 := ll4'
        clear ll4'
        have ll6 := ll6'
        clear ll6'
        have ll7 := ll7'
        clear ll7'
        have hS := hS2
        clear hS2
        generalize w0.setCells b7 0 (entL 0 (.slice (some ⟨b4, 0, none⟩) 1 1) (fun _ => 0)) = w1 at *
        try clear w0
        obtain ⟨w0, rfl⟩ : ∃ x, x = w1 := ⟨_, rfl⟩
        refine wpAnyH_done (by kernel_rfl) ?_ _
        exact hQn _ _ _ _ _ _ b1 b4 b6 b7 w0 hh1 hh4 mm6 mm7 hS
    ·
     go_simp
     refine hK.out _ _ ?_ (fun _ => ?_)
     · exact hS.alloc (Obj.cells (entL 0 (.slice none 0 0) (fun _ => 0)).toArray 28)
     clear hK K
     try simp only [Act.put, List.setIfInBounds_toArray, List.set_cons_zero, List.set_cons_succ]
     have hS2 := hS.alloc (Obj.cells (entL 0 (.slice none 0 0) (fun _ => 0)).toArray 28)
     have gg6 := hS.sz
     have hh6 := there_box w0
     have ll6 : w0.heap.size < (w0.alloc (Obj.cells (entL 0 (.slice none 0 0) (fun _ => 0)).toArray 28)).heap.size := by simp
     have hh1' := hh1.block (Below.heap_alloc w0 (Obj.cells (entL 0 (.slice none 0 0) (fun _ => 0)).toArray 28) b1 ll1)
     have ll1' : b1 < (w0.alloc (Obj.cells (entL 0 (.slice none 0 0) (fun _ => 0)).toArray 28)).heap.size := by simp; omega
     have nn61 : w0.heap.size ≠ b1 := by omega
     have hh7' := there_block hh7 (Below.heap_alloc w0 (Obj.cells (entL 0 (.slice none 0 0) (fun _ => 0)).toArray 28) b7 ll7)
     have ll7' : b7 < (w0.alloc (Obj.cells (entL 0 (.slice none 0 0) (fun _ => 0)).toArray 28)).heap.size := by simp; omega
     have nn67 : w0.heap.size ≠ b7 := by omega
     clear hS hh1 ll1 hh7 ll7
     have hh1 := hh1'
     have ll1 := ll1'
     clear hh1' ll1'
     have hh7 := hh7'
     have ll7 := ll7'
     clear hh7' ll7'
     have hS := hS2
     clear hS2
     generalize w0.alloc (Obj.cells (entL 0 (.slice none 0 0) (fun _ => 0)).toArray 28) = w1 at *
     generalize w0.heap.size = b6 at *
     try clear w0
     obtain ⟨w0, rfl⟩ : ∃ x, x = w1 := ⟨_, rfl⟩
     refine wpAnyH_ready (rs := [4, 8]) (by kernel_rfl) (by simp) ?_
     refine AllReadyH.cons rfl (fun K hK => ?_) (AllReadyH.cons rfl (fun K hK => ?_) AllReadyH.nil)
     ·
      go_simp
      refine hK.out _ _ ?_ (fun _ => ?_)
      · exact hS.alloc (Obj.cells #[.int .i64 k2, .int .i64 s2, .int .i64 g2, .int .i64 p2] 43)
      clear hK K
      try simp only [Act.put, List.setIfInBounds_toArray, List.set_cons_zero, List.set_cons_succ]
      have hS2 := hS.alloc (Obj.cells #[.int .i64 k2, .int .i64 s2, .int .i64 g2, .int .i64 p2] 43)
      have gg4 := hS.sz
      have hh4 := evsAt_box k2 s2 g2 p2 w0
      have ll4 : w0.heap.size < (w0.alloc (Obj.cells #[.int .i64 k2, .int .i64 s2, .int .i64 g2, .int .i64 p2] 43)).heap.size := by simp
      have hh1' := hh1.block (Below.heap_alloc w0 (Obj.cells #[.int .i64 k2, .int .i64 s2, .int .i64 g2, .int .i64 p2] 43) b1 ll1)
      have ll1' : b1 < (w0.alloc (Obj.cells #[.int .i64 k2, .int .i64 s2, .int .i64 g2, .int .i64 p2] 43)).heap.size := by simp; omega
      have nn41 : w0.heap.size ≠ b1 := by omega
      have hh7' := there_block hh7 (Below.heap_alloc w0 (Obj.cells #[.int .i64 k2, .int .i64 s2, .int .i64 g2, .int .i64 p2] 43) b7 ll7)
      have ll7' : b7 < (w0.alloc (Obj.cells #[.int .i64 k2, .int .i64 s2, .int .i64 g2, .int .i64 p2] 43)).heap.size := by simp; omega
      have nn47 : w0.heap.size ≠ b7 := by omega
      have hh6' := there_block hh6 (Below.heap_alloc w0 (Obj.cells #[.int .i64 k2, .int .i64 s2, .int .i64 g2, .int .i64 p2] 43) b6 ll6)
      have ll6' : b6 < (w0.alloc (Obj.cells #[.int .i64 k2, .int .i64 s2, .int .i64 g2, .int .i64 p2] 43)).heap.size := by simp; omega
      have nn46 : w0.heap.size ≠ b6 := by omega
      clear hS hh1 ll1 hh7 ll7 hh6 ll6
      have hh1 := hh1'
      have ll1 := ll1'
      clear hh1' ll1'
      have hh7 := hh7'
      have ll7 := ll7'
      clear hh7' ll7'
      have hh6 := hh6'
      have ll6 := ll6'
      clear hh6' ll6'
      have hS := hS2
      clear hS2
      generalize w0.alloc (Obj.cells #[.int .i64 k2, .int .i64 s2, .int .i64 g2, .int .i64 p2] 43) = w1 at *
      generalize w0.heap.size = b4 at *
      try clear w0
      obtain ⟨w0, rfl⟩ : ∃ x, x = w1 := ⟨_, rfl⟩
      refine wpAnyH_take (i := 5) (v := ?_) rfl (by kernel_rfl) (by kernel_rfl) (by kernel_rfl) (hQp 14 _) (Or.inl ⟨by rfl, ?_⟩) hS ?_
      rotate_left 1
      · intro w hw; refine build_run _ _ 13 b4 _ ?_ ?_ <;> rfl
      try simp only [Act.put, List.setIfInBounds_toArray, List.set_cons_zero, List.set_cons_succ]
      refine wpAnyH_ready (rs := [8]) (by kernel_rfl) (by simp) ?_
      refine AllReadyH.cons rfl (fun K hK => ?_) AllReadyH.nil
      ·
       rw [if_pos (by rfl)]
       refine wp_store_mid 28 _ _ rfl b6 0 (entL 0 (.slice (some ⟨b1, 0, none⟩) 1 1) (fun _ => 0)).toArray rfl rfl (by rw [List.size_toArray, entL_len]; exact hh6) (by rw [List.size_toArray]; exact size_ent _ _ _) (entL_one _ _ _ _ _) ?_
       rw [show (entL 0 (.slice (some ⟨b1, 0, none⟩) 1 1) (fun _ => 0)).toArray.toList = (entL 0 (.slice (some ⟨b1, 0, none⟩) 1 1) (fun _ => 0)) from rfl]
       have hS2 := hS.store b6 gg6 (entL 0 (.slice (some ⟨b1, 0, none⟩) 1 1) (fun _ => 0))
       refine hK.out _ _ hS2 (fun _ => ?_)
       clear hK K
       try simp only [Act.put, List.setIfInBounds_toArray, List.set_cons_zero, List.set_cons_succ]
       have mm6 := entAt_stored hh6 0 (.slice (some ⟨b1, 0, none⟩) 1 1) (fun _ => 0)
       have hh1' := hh1.block (setCells_other b6 b1 (by omega) (entL 0 (.slice (some ⟨b1, 0, none⟩) 1 1) (fun _ => 0)) 0 w0)
       have hh4' := hh4.block (setCells_other b6 b4 (by omega) (entL 0 (.slice (some ⟨b1, 0, none⟩) 1 1) (fun _ => 0)) 0 w0)
       have hh7' := there_block hh7 (setCells_other b6 b7 (by omega) (entL 0 (.slice (some ⟨b1, 0, none⟩) 1 1) (fun _ => 0)) 0 w0)
       have ll1' : b1 < (w0.setCells b6 0 (entL 0 (.slice (some ⟨b1, 0, none⟩) 1 1) (fun _ => 0))).heap.size := by rw [setCells_size]; exact ll1
       have ll4' : b4 < (w0.setCells b6 0 (entL 0 (.slice (some ⟨b1, 0, none⟩) 1 1) (fun _ => 0))).heap.size := by rw [setCells_size]; exact ll4
       have ll6' : b6 < (w0.setCells b6 0 (entL 0 (.slice (some ⟨b1, 0, none⟩) 1 1) (fun _ => 0))).heap.size := by rw [setCells_size]; exact ll6
       have ll7' : b7 < (w0.setCells b6 0 (entL 0 (.slice (some ⟨b1, 0, none⟩) 1 1) (fun _ => 0))).heap.size := by rw [setCells_size]; exact ll7
       clear hS hh6 hh1 hh4 hh7 ll1 ll4 ll6 ll7
       have hh1 := hh1'
       clear hh1'
       have hh4 := hh4'
       clear hh4'
       have hh7 := hh7'
       clear hh7'
       have ll1 := ll1'
       clear ll1'
       have ll4 := ll4'
       clear ll4'
       have ll6 := ll6'
       clear ll6'
       have ll7 := ll7'
       clear ll7'
       have hS := hS2
       clear hS2
       generalize w0.setCells b6 0 (entL 0 (.slice (some ⟨b1, 0, none⟩) 1 1) (fun _ => 0)) = w1 at *
       try clear w0
       obtain ⟨w0, rfl⟩ : ∃ x, x = w1 := ⟨_, rfl⟩
       refine wpAnyH_ready (rs := [9]) (by kernel_rfl) (by simp) ?_
       refine AllReadyH.cons rfl (fun K hK => ?_) AllReadyH.nil
       ·
        rw [if_pos (by rfl)]
        refine wp_store_mid 28 _ _ rfl b7 0 (entL 0 (.slice (some ⟨b4, 0, none⟩) 1 1) (fun _ => 0)).toArray rfl rfl (by rw [List.size_toArray, entL_len]; exact hh7) (by rw [List.size_toArray]; exact size_ent _ _ _) (entL_one _ _ _ _ _) ?_
        rw [show (entL 0 (.slice (some ⟨b4, 0, none⟩) 1 1) (fun _ => 0)).toArray.toList = (entL 0 (.slice (some ⟨b4, 0, none⟩) 1 1) (fun _ => 0)) from rfl]
        have hS2 := hS.store b7 gg7 (entL 0 (.slice (some ⟨b4, 0, none⟩) 1 1) (fun _ => 0))
        refine hK.out _ _ hS2 (fun _ => ?_)
        clear hK K
        try simp only [Act.put, List.setIfInBounds_toArray, List.set_cons_zero, List.set_cons_succ]
        have mm7 := entAt_stored hh7 0 (.slice (some ⟨b4, 0, none⟩) 1 1) (fun _ => 0)
        have hh1' := hh1.block (setCells_other b7 b1 (by omega) (entL 0 (.slice (some ⟨b4, 0, none⟩) 1 1) (fun _ => 0)) 0 w0)
        have hh4' := hh4.block (setCells_other b7 b4 (by omega) (entL 0 (.slice (some ⟨b4, 0, none⟩) 1 1) (fun _ => 0)) 0 w0)
        have mm6' := mm6.block (setCells_other b7 b6 (by omega) (entL 0 (.slice (some ⟨b4, 0, none⟩) 1 1) (fun _ => 0)) 0 w0)
        have ll1' : b1 < (w0.setCells b7 0 (entL 0 (.slice (some ⟨b4, 0, none⟩) 1 1) (fun _ => 0))).heap.size := by rw [setCells_size]; exact ll1
        have ll4' : b4 < (w0.setCells b7 0 (entL 0 (.slice (some ⟨b4, 0, none⟩) 1 1) (fun _ => 0))).heap.size := by rw [setCells_size]; exact ll4
        have ll6' : b6 < (w0.setCells b7 0 (entL 0 (.slice (some ⟨b4, 0, none⟩) 1 1) (fun _ => 0))).heap.size := by rw [setCells_size]; exact ll6
        have ll7' : b7 < (w0.setCells b7 0 (entL 0 (.slice (some ⟨b4, 0, none⟩) 1 1) (fun _ => 0))).heap.size := by rw [setCells_size]; exact ll7
        clear hS hh7 hh1 hh4 mm6 ll1 ll4 ll6 ll7
        have hh1 := hh1'
        clear hh1'
        have hh4 := hh4'
        clear hh4'
        have mm6 := mm6'
        clear mm6'
        have ll1 := ll1'
        clear ll1'
        have ll4 := ll4'
        clear ll4'
        have ll6 := ll6'
        clear ll6'
        have ll7 := ll7'
        clear ll7'
        have hS := hS2
        clear hS2
        generalize w0.setCells b7 0 (entL 0 (.slice (some ⟨b4, 0, none⟩) 1 1) (fun _ => 0)) = w1 at *
        try clear w0
        obtain ⟨w0, rfl⟩ : ∃ x, x = w1 := ⟨_, rfl⟩
        refine wpAnyH_done (by kernel_rfl) ?_ _
        exact hQn _ _ _ _ _ _ b1 b4 b6 b7 w0 hh1 hh4 mm6 mm7 hS
     ·
      rw [if_pos (by rfl)]
      refine wp_store_mid 28 _ _ rfl b6 0 (entL 0 (.slice (some ⟨b1, 0, none⟩) 1 1) (fun _ => 0)).toArray rfl rfl (by rw [List.size_toArray, entL_len]; exact hh6) (by rw [List.size_toArray]; exact size_ent _ _ _) (entL_one _ _ _ _ _) ?_
      rw [show (entL 0 (.slice (some ⟨b1, 0, none⟩) 1 1) (fun _ => 0)).toArray.toList = (entL 0 (.slice (some ⟨b1, 0, none⟩) 1 1) (fun _ => 0)) from rfl]
      have hS2 := hS.store b6 gg6 (entL 0 (.slice (some ⟨b1, 0, none⟩) 1 1) (fun _ => 0))
      refine hK.out _ _ hS2 (fun _ => ?_)
      clear hK K
      try simp only [Act.put, List.setIfInBounds_toArray, List.set_cons_zero, List.set_cons_succ]
      have mm6 := entAt_stored hh6 0 (.slice (some ⟨b1, 0, none⟩) 1 1) (fun _ => 0)
      have hh1' := hh1.block (setCells_other b6 b1 (by omega) (entL 0 (.slice (some ⟨b1, 0, none⟩) 1 1) (fun _ => 0)) 0 w0)
      have hh7' := there_block hh7 (setCells_other b6 b7 (by omega) (entL 0 (.slice (some ⟨b1, 0, none⟩) 1 1) (fun _ => 0)) 0 w0)
      have ll1' : b1 < (w0.setCells b6 0 (entL 0 (.slice (some ⟨b1, 0, none⟩) 1 1) (fun _ => 0))).heap.size := by rw [setCells_size]; exact ll1
      have ll6' : b6 < (w0.setCells b6 0 (entL 0 (.slice (some ⟨b1, 0, none⟩) 1 1) (fun _ => 0))).heap.size := by rw [setCells_size]; exact ll6
      have ll7' : b7 < (w0.setCells b6 0 (entL 0 (.slice (some ⟨b1, 0, none⟩) 1 1) (fun _ => 0))).heap.size := by rw [setCells_size]; exact ll7
      clear hS hh6 hh1 hh7 ll1 ll6 ll7
      have hh1 := hh1'
      clear hh1'
      have hh7 := hh7'
      clear hh7'
      have ll1 := ll1'
      clear ll1'
      have ll6 := ll6'
      clear ll6'
      have ll7 := ll7'
      clear ll7'
      have hS := hS2
      clear hS2
      generalize w0.setCells b6 0 (entL 0 (.slice (some ⟨b1, 0, none⟩) 1 1) (fun _ => 0)) = w1 at *
      try clear w0
      obtain ⟨w0, rfl⟩ : ∃ x, x = w1 := ⟨_, rfl⟩
      refine wpAnyH_ready (rs := [4]) (by kernel_rfl) (by simp) ?_
      refine AllReadyH.cons rfl (fun K hK => ?_) AllReadyH.nil
      ·
       go_simp
       refine hK.out _ _ ?_ (fun _ => ?_)
       · exact hS.alloc (Obj.cells #[.int .i64 k2, .int .i64 s2, .int .i64 g2, .int .i64 p2] 43)
       clear hK K
       try simp only [Act.put, List.setIfInBounds_toArray, List.set_cons_zero, List.set_cons_succ]
       have hS2 := hS.alloc (Obj.cells #[.int .i64 k2, .int .i64 s2, .int .i64 g2, .int .i64 p2] 43)
       have gg4 := hS.sz
       have hh4 := evsAt_box k2 s2 g2 p2 w0
       have ll4 : w0.heap.size < (w0.alloc (Obj.cells #[.int .i64 k2, .int .i64 s2, .int .i64 g2, .int .i64 p2] 43)).heap.size := by simp
       have hh1' := hh1.block (Below.heap_alloc w0 (Obj.cells #[.int .i64 k2, .int .i64 s2, .int .i64 g2, .int .i64 p2] 43) b1 ll1)
       have ll1' : b1 < (w0.alloc (Obj.cells #[.int .i64 k2, .int .i64 s2, .int .i64 g2, .int .i64 p2] 43)).heap.size := by simp; omega
       have nn41 : w0.heap.size ≠ b1 := by omega
       have hh7' := there_block hh7 (Below.heap_alloc w0 (Obj.cells #[.int .i64 k2, .int .i64 s2, .int .i64 g2, .int .i64 p2] 43) b7 ll7)
       have ll7' : b7 < (w0.alloc (Obj.cells #[.int .i64 k2, .int .i64 s2, .int .i64 g2, .int .i64 p2] 43)).heap.size := by simp; omega
       have nn47 : w0.heap.size ≠ b7 := by omega
       have mm6' := mm6.block (Below.heap_alloc w0 (Obj.cells #[.int .i64 k2, .int .i64 s2, .int .i64 g2, .int .i64 p2] 43) b6 ll6)
       have ll6' : b6 < (w0.alloc (Obj.cells #[.int .i64 k2, .int .i64 s2, .int .i64 g2, .int .i64 p2] 43)).heap.size := by simp; omega
       have nn46 : w0.heap.size ≠ b6 := by omega
       clear hS hh1 ll1 hh7 ll7 mm6 ll6
       have hh1 := hh1'
       have ll1 := ll1'
       clear hh1' ll1'
       have hh7 := hh7'
       have ll7 := ll7'
       clear hh7' ll7'
       have mm6 := mm6'
       have ll6 := ll6'
       clear mm6' ll6'
       have hS := hS2
       clear hS2
       generalize w0.alloc (Obj.cells #[.int .i64 k2, .int .i64 s2, .int .i64 g2, .int .i64 p2] 43) = w1 at *
       generalize w0.heap.size = b4 at *
       try clear w0
       obtain ⟨w0, rfl⟩ : ∃ x, x = w1 := ⟨_, rfl⟩
       refine wpAnyH_take (i := 5) (v := ?_) rfl (by kernel_rfl) (by kernel_rfl) (by kernel_rfl) (hQp 14 _) (Or.inl ⟨by rfl, ?_⟩) hS ?_
       rotate_left 1
       · intro w hw; refine build_run _ _ 13 b4 _ ?_ ?_ <;> rfl
       try simp only [Act.put, List.setIfInBounds_toArray, List.set_cons_zero, List.set_cons_succ]
       refine wpAnyH_ready (rs := [9]) (by kernel_rfl) (by simp) ?_
       refine AllReadyH.cons rfl (fun K hK => ?_) AllReadyH.nil
       ·
        rw [if_pos (by rfl)]
        refine wp_store_mid 28 _ _ rfl b7 0 (entL 0 (.slice (some ⟨b4, 0, none⟩) 1 1) (fun _ => 0)).toArray rfl rfl (by rw [List.size_toArray, entL_len]; exact hh7) (by rw [List.size_toArray]; exact size_ent _ _ _) (entL_one _ _ _ _ _) ?_
        rw [show (entL 0 (.slice (some ⟨b4, 0, none⟩) 1 1) (fun _ => 0)).toArray.toList = (entL 0 (.slice (some ⟨b4, 0, none⟩) 1 1) (fun _ => 0)) from rfl]
        have hS2 := hS.store b7 gg7 (entL 0 (.slice (some ⟨b4, 0, none⟩) 1 1) (fun _ => 0))
        refine hK.out _ _ hS2 (fun _ => ?_)
        clear hK K
        try simp only [Act.put, List.setIfInBounds_toArray, List.set_cons_zero, List.set_cons_succ]
        have mm7 := entAt_stored hh7 0 (.slice (some ⟨b4, 0, none⟩) 1 1) (fun _ => 0)
        have hh1' := hh1.block (setCells_other b7 b1 (by omega) (entL 0 (.slice (some ⟨b4, 0, none⟩) 1 1) (fun _ => 0)) 0 w0)
        have hh4' := hh4.block (setCells_other b7 b4 (by omega) (entL 0 (.slice (some ⟨b4, 0, none⟩) 1 1) (fun _ => 0)) 0 w0)
        have mm6' := mm6.block (setCells_other b7 b6 (by omega) (entL 0 (.slice (some ⟨b4, 0, none⟩) 1 1) (fun _ => 0)) 0 w0)
        have ll1' : b1 < (w0.setCells b7 0 (entL 0 (.slice (some ⟨b4, 0, none⟩) 1 1) (fun _ => 0))).heap.size := by rw [setCells_size]; exact ll1
        have ll4' : b4 < (w0.setCells b7 0 (entL 0 (.slice (some ⟨b4, 0, none⟩) 1 1) (fun _ => 0))).heap.size := by rw [setCells_size]; exact ll4
        have ll6' : b6 < (w0.setCells b7 0 (entL 0 (.slice (some ⟨b4, 0, none⟩) 1 1) (fun _ => 0))).heap.size := by rw [setCells_size]; exact ll6
        have ll7' : b7 < (w0.setCells b7 0 (entL 0 (.slice (some ⟨b4, 0, none⟩) 1 1) (fun _ => 0))).heap.size := by rw [setCells_size]; exact ll7
        clear hS hh7 hh1 hh4 mm6 ll1 ll4 ll6 ll7
        have hh1 := hh1'
        clear hh1'
        have hh4 := hh4'
        clear hh4'
        have mm6 := mm6'
        clear mm6'
        have ll1 := ll1'
        clear ll1'
        have ll4 := ll4'
        clear ll4'
        have ll6 := ll6'
        clear ll6'
        have ll7 := ll7'
        clear ll7'
        have hS := hS2
        clear hS2
        generalize w0.setCells b7 0 (entL 0 (.slice (some ⟨b4, 0, none⟩) 1 1) (fun _ => 0)) = w1 at *
        try clear w0
        obtain ⟨w0, rfl⟩ : ∃ x, x = w1 := ⟨_, rfl⟩
        refine wpAnyH_done (by kernel_rfl) ?_ _
        exact hQn _ _ _ _ _ _ b1 b4 b6 b7 w0 hh1 hh4 mm6 mm7 hS
  ·
   go_simp
   refine hK.out _ _ ?_ (fun _ => ?_)
   · exact hS.alloc (Obj.cells #[.int .i64 k2, .int .i64 s2, .int .i64 g2, .int .i64 p2] 43)
   clear hK K
   try simp only [Act.put, List.setIfInBounds_toArray, List.set_cons_zero, List.set_cons_succ]
   have hS2 := hS.alloc (Obj.cells #[.int .i64 k2, .int .i64 s2, .int .i64 g2, .int .i64 p2] 43)
   have gg4 := hS.sz
   have hh4 := evsAt_box k2 s2 g2 p2 w0
   have ll4 : w0.heap.size < (w0.alloc (Obj.cells #[.int .i64 k2, .int .i64 s2, .int .i64 g2, .int .i64 p2] 43)).heap.size := by simp
   clear hS
   have hS := hS2
   clear hS2
   generalize w0.alloc (Obj.cells #[.int .i64 k2, .int .i64 s2, .int .i64 g2, .int .i64 p2] 43) = w1 at *
   generalize w0.heap.size = b4 at *
   try clear w0
   obtain ⟨w0, rfl⟩ : ∃ x, x = w1 := ⟨_, rfl⟩
   refine wpAnyH_take (i := 5) (v := ?_) rfl (by kernel_rfl) (by kernel_rfl) (by kernel_rfl) (hQp 14 _) (Or.inl ⟨by rfl, ?_⟩) hS ?_
   rotate_left 1
   · intro w hw; refine build_run _ _ 13 b4 _ ?_ ?_ <;> rfl
   try simp only [Act.put, List.setIfInBounds_toArray, List.set_cons_zero, List.set_cons_succ]
   refine wpAnyH_ready (rs := [1, 6, 7]) (by kernel_rfl) (by simp) ?_
   refine AllReadyH.cons rfl (fun K hK => ?_) (AllReadyH.cons rfl (fun K hK => ?_) (AllReadyH.cons rfl (fun K hK => ?_) AllReadyH.nil))
   ·
    go_simp
    refine hK.out _ _ ?_ (fun _ => ?_)
    · exact hS.alloc (Obj.cells #[.int .i64 k1, .int .i64 s1, .int .i64 g1, .int .i64 p1] 43)
    clear hK K
    try simp only [Act.put, List.setIfInBounds_toArray, List.set_cons_zero, List.set_cons_succ]
    have hS2 := hS.alloc (Obj.cells #[.int .i64 k1, .int .i64 s1, .int .i64 g1, .int .i64 p1] 43)
    have gg1 := hS.sz
    have hh1 := evsAt_box k1 s1 g1 p1 w0
    have ll1 : w0.heap.size < (w0.alloc (Obj.cells #[.int .i64 k1, .int .i64 s1, .int .i64 g1, .int .i64 p1] 43)).heap.size := by simp
    have hh4' := hh4.block (Below.heap_alloc w0 (Obj.cells #[.int .i64 k1, .int .i64 s1, .int .i64 g1, .int .i64 p1] 43) b4 ll4)
    have ll4' : b4 < (w0.alloc (Obj.cells #[.int .i64 k1, .int .i64 s1, .int .i64 g1, .int .i64 p1] 43)).heap.size := by simp; omega
    have nn14 : w0.heap.size ≠ b4 := by omega
    clear hS hh4 ll4
    have hh4 := hh4'
    have ll4 := ll4'
    clear hh4' ll4'
    have hS := hS2
    clear hS2
    generalize w0.alloc (Obj.cells #[.int .i64 k1, .int .i64 s1, .int .i64 g1, .int .i64 p1] 43) = w1 at *
    generalize w0.heap.size = b1 at *
    try clear w0
    obtain ⟨w0, rfl⟩ : ∃ x, x = w1 := ⟨_, rfl⟩
    refine wpAnyH_take (i := 2) (v := ?_) rfl (by kernel_rfl) (by kernel_rfl) (by kernel_rfl) (hQp 11 _) (Or.inl ⟨by rfl, ?_⟩) hS ?_
    rotate_left 1
    · intro w hw; refine build_run _ _ 10 b1 _ ?_ ?_ <;> rfl
    try simp only [Act.put, List.setIfInBounds_toArray, List.set_cons_zero, List.set_cons_succ]
    refine wpAnyH_ready (rs := [6, 7]) (by kernel_rfl) (by simp) ?_
    refine AllReadyH.cons rfl (fun K hK => ?_) (AllReadyH.cons rfl (fun K hK => ?_) AllReadyH.nil)
    ·
     go_simp
     refine hK.out _ _ ?_ (fun _ => ?_)
     · exact hS.alloc (Obj.cells (entL 0 (.slice none 0 0) (fun _ => 0)).toArray 28)
     clear hK K
     try simp only [Act.put, List.setIfInBounds_toArray, List.set_cons_zero, List.set_cons_succ]
     have hS2 := hS.alloc (Obj.cells (entL 0 (.slice none 0 0) (fun _ => 0)).toArray 28)
     have gg6 := hS.sz
     have hh6 := there_box w0
     have ll6 : w0.heap.size < (w0.alloc (Obj.cells (entL 0 (.slice none 0 0) (fun _ => 0)).toArray 28)).heap.size := by simp
     have hh4' := hh4.block (Below.heap_alloc w0 (Obj.cells (entL 0 (.slice none 0 0) (fun _ => 0)).toArray 28) b4 ll4)
     have ll4' : b4 < (w0.alloc (Obj.cells (entL 0 (.slice none 0 0) (fun _ => 0)).toArray 28)).heap.size := by simp; omega
     have nn64 : w0.heap.size ≠ b4 := by omega
     have hh1' := hh1.block (Below.heap_alloc w0 (Obj.cells (entL 0 (.slice none 0 0) (fun _ => 0)).toArray 28) b1 ll1)
     have ll1' : b1 < (w0.alloc (Obj.cells (entL 0 (.slice none 0 0) (fun _ => 0)).toArray 28)).heap.size := by simp; omega
     have nn61 : w0.heap.size ≠ b1 := by omega
     clear hS hh4 ll4 hh1 ll1
     have hh4 := hh4'
     have ll4 := ll4'
     clear hh4' ll4'
     have hh1 := hh1'
     have ll1 := ll1'
     clear hh1' ll1'
     have hS := hS2
     clear hS2
     generalize w0.alloc (Obj.cells (entL 0 (.slice none 0 0) (fun _ => 0)).toArray 28) = w1 at *
     generalize w0.heap.size = b6 at *
     try clear w0
     obtain ⟨w0, rfl⟩ : ∃ x, x = w1 := ⟨_, rfl⟩
     refine wpAnyH_ready (rs := [7]) (by kernel_rfl) (by simp) ?_
     refine AllReadyH.cons rfl (fun K hK => ?_) AllReadyH.nil
     ·
      go_simp
      refine hK.out _ _ ?_ (fun _ => ?_)
      · exact hS.alloc (Obj.cells (entL 0 (.slice none 0 0) (fun _ => 0)).toArray 28)
      clear hK K
      try simp only [Act.put, List.setIfInBounds_toArray, List.set_cons_zero, List.set_cons_succ]
      have hS2 := hS.alloc (Obj.cells (entL 0 (.slice none 0 0) (fun _ => 0)).toArray 28)
      have gg7 := hS.sz
      have hh7 := there_box w0
      have ll7 : w0.heap.size < (w0.alloc (Obj.cells (entL 0 (.slice none 0 0) (fun _ => 0)).toArray 28)).heap.size := by simp
      have hh4' := hh4.block (Below.heap_alloc w0 (Obj.cells (entL 0 (.slice none 0 0) (fun _ => 0)).toArray 28) b4 ll4)
      have ll4' : b4 < (w0.alloc (Obj.cells (entL 0 (.slice none 0 0) (fun _ => 0)).toArray 28)).heap.size := by simp; omega
      have nn74 : w0.heap.size ≠ b4 := by omega
      have hh1' := hh1.block (Below.heap_alloc w0 (Obj.cells (entL 0 (.slice none 0 0) (fun _ => 0)).toArray 28) b1 ll1)
      have ll1' : b1 < (w0.alloc (Obj.cells (entL 0 (.slice none 0 0) (fun _ => 0)).toArray 28)).heap.size := by simp; omega
      have nn71 : w0.heap.size ≠ b1 := by omega
      have hh6' := there_block hh6 (Below.heap_alloc w0 (Obj.cells (entL 0 (.slice none 0 0) (fun _ => 0)).toArray 28) b6 ll6)
      have ll6' : b6 < (w0.alloc (Obj.cells (entL 0 (.slice none 0 0) (fun _ => 0)).toArray 28)).heap.size := by simp; omega
      have nn76 : w0.heap.size ≠ b6 := by omega
      clear hS hh4 ll4 hh1 ll1 hh6 ll6
      have hh4 := hh4'
      have ll4 := ll4'
      clear hh4' ll4'
      have hh1 := hh1'
      have ll1 := ll1'
      clear hh1' ll1'
      have hh6 := hh6'
      have ll6 := ll6'
      clear hh6' ll6'
      have hS := hS2
      clear hS2
      generalize w0.alloc (Obj.cells (entL 0 (.slice none 0 0) (fun _ => 0)).toArray 28) = w1 at *
      generalize w0.heap.size = b7 at *
      try clear w0
      obtain ⟨w0, rfl⟩ : ∃ x, x = w1 := ⟨_, rfl⟩
      refine wpAnyH_ready (rs := [8]) (by kernel_rfl) (by simp) ?_
      refine AllReadyH.cons rfl (fun K hK => ?_) AllReadyH.nil
      ·
       rw [if_pos (by rfl)]
       refine wp_store_mid 28 _ _ rfl b6 0 (entL 0 (.slice (some ⟨b1, 0, none⟩) 1 1) (fun _ => 0)).toArray rfl rfl (by rw [List.size_toArray, entL_len]; exact hh6) (by rw [List.size_toArray]; exact size_ent _ _ _) (entL_one _ _ _ _ _) ?_
       rw [show (entL 0 (.slice (some ⟨b1, 0, none⟩) 1 1) (fun _ => 0)).toArray.toList = (entL 0 (.slice (some ⟨b1, 0, none⟩) 1 1) (fun _ => 0)) from rfl]
       have hS2 := hS.store b6 gg6 (entL 0 (.slice (some ⟨b1, 0, none⟩) 1 1) (fun _ => 0))
       refine hK.out _ _ hS2 (fun _ => ?_)
       clear hK K
       try simp only [Act.put, List.setIfInBounds_toArray, List.set_cons_zero, List.set_cons_succ]
       have mm6 := entAt_stored hh6 0 (.slice (some ⟨b1, 0, none⟩) 1 1) (fun _ => 0)
       have hh1' := hh1.block (setCells_other b6 b1 (by omega) (entL 0 (.slice (some ⟨b1, 0, none⟩) 1 1) (fun _ => 0)) 0 w0)
       have hh4' := hh4.block (setCells_other b6 b4 (by omega) (entL 0 (.slice (some ⟨b1, 0, none⟩) 1 1) (fun _ => 0)) 0 w0)
       have hh7' := there_block hh7 (setCells_other b6 b7 (by omega) (entL 0 (.slice (some ⟨b1, 0, none⟩) 1 1) (fun _ => 0)) 0 w0)
       have ll1' : b1 < (w0.setCells b6 0 (entL 0 (.slice (some ⟨b1, 0, none⟩) 1 1) (fun _ => 0))).heap.size := by rw [setCells_size]; exact ll1
       have ll4' : b4 < (w0.setCells b6 0 (entL 0 (.slice (some ⟨b1, 0, none⟩) 1 1) (fun _ => 0))).heap.size := by rw [setCells_size]; exact ll4
       have ll6' : b6 < (w0.setCells b6 0 (entL 0 (.slice (some ⟨b1, 0, none⟩) 1 1) (fun _ => 0))).heap.size := by rw [setCells_size]; exact ll6
       have ll7' : b7 < (w0.setCells b6 0 (entL 0 (.slice (some ⟨b1, 0, none⟩) 1 1) (fun _ => 0))).heap.size := by rw [setCells_size]; exact ll7
       clear hS hh6 hh1 hh4 hh7 ll1 ll4 ll6 ll7
       have hh1 := hh1'
       clear hh1'
       have hh4 := hh4'
       clear hh4'
       have hh7 := hh7'
       clear hh7'
       have ll1 := ll1'
       clear ll1'
       have ll4 := ll4'
       clear ll4'
       have ll6 := ll6'
       clear ll6'
       have ll7 := ll7'
       clear ll7'
       have hS := hS2
       clear hS2
       generalize w0.setCells b6 0 (entL 0 (.slice (some ⟨b1, 0, none⟩) 1 1) (fun _ => 0)) = w1 at *
       try clear w0
       obtain ⟨w0, rfl⟩ : ∃ x, x = w1 := ⟨_, rfl⟩
       refine wpAnyH_ready (rs := [9]) (by kernel_rfl) (by simp) ?_
       refine AllReadyH.cons rfl (fun K hK => ?_) AllReadyH.nil
       ·
        rw [if_pos (by rfl)]
        refine wp_store_mid 28 _ _ rfl b7 0 (entL 0 (.slice (some ⟨b4, 0, none⟩) 1 1) (fun _ => 0)).toArray rfl rfl (by rw [List.size_toArray, entL_len]; exact hh7) (by rw [List.size_toArray]; exact size_ent _ _ _) (entL_one _ _ _ _ _) ?_
        rw [show (entL 0 (.slice (some ⟨b4, 0, none⟩) 1 1) (fun _ => 0)).toArray.toList = (entL 0 (.slice (some ⟨b4, 0, none⟩) 1 1) (fun _ => 0)) from rfl]
        have hS2 := hS.store b7 gg7 (entL 0 (.slice (some ⟨b4, 0, none⟩) 1 1) (fun _ => 0))
        refine hK.out _ _ hS2 (fun _ => ?_)
        clear hK K
        try simp only [Act.put, List.setIfInBounds_toArray, List.set_cons_zero, List.set_cons_succ]
        have mm7 := entAt_stored hh7 0 (.slice (some ⟨b4, 0, none⟩) 1 1) (fun _ => 0)
        have hh1' := hh1.block (setCells_other b7 b1 (by omega) (entL 0 (.slice (some ⟨b4, 0, none⟩) 1 1) (fun _ => 0)) 0 w0)
        have hh4' := hh4.block (setCells_other b7 b4 (by omega) (entL 0 (.slice (some ⟨b4, 0, none⟩) 1 1) (fun _ => 0)) 0 w0)
        have mm6' := mm6.block (setCells_other b7 b6 (by omega) (entL 0 (.slice (some ⟨b4, 0, none⟩) 1 1) (fun _ => 0)) 0 w0)
        have ll1' : b1 < (w0.setCells b7 0 (entL 0 (.slice (some ⟨b4, 0, none⟩) 1 1) (fun _ => 0))).heap.size := by rw [setCells_size]; exact ll1
        have ll4' : b4 < (w0.setCells b7 0 (entL 0 (.slice (some ⟨b4, 0, none⟩) 1 1) (fun _ => 0))).heap.size := by rw [setCells_size]; exact ll4
        have ll6' : b6 < (w0.setCells b7 0 (entL 0 (.slice (some ⟨b4, 0, none⟩) 1 1) (fun _ => 0))).heap.size := by rw [setCells_size]; exact ll6
        have ll7' : b7 < (w0.setCells b7 0 (entL 0 (.slice (some ⟨b4, 0, none⟩) 1 1) (fun _ => 0))).heap.size := by rw [setCells_size]; exact ll7
        clear hS hh7 hh1 hh4 mm6 ll1 ll4 ll6 ll7
        have hh1 := hh1'
        clear hh1'
        have hh4 := hh4'
        clear hh4'
        have mm6 := mm6'
        clear mm6'
        have ll1 := ll1'
        clear ll1'
        have ll4 := ll4'
        clear ll4'
        have ll6 := ll6'
        clear ll6'
        have ll7 := ll7'
        clear ll7'
        have hS := hS2
        clear hS2
        generalize w0.setCells b7 0 (entL 0 (.slice (some ⟨b4, 0, none⟩) 1 1) (fun _ => 0)) = w1 at *
        try clear w0
        obtain ⟨w0, rfl⟩ : ∃ x, x = w1 := ⟨_, rfl⟩
        refine wpAnyH_done (by kernel_rfl) ?_ _
        exact hQn _ _ _ _ _ _ b1 b4 b6 b7 w0 hh1 hh4 mm6 mm7 hS
    ·
     go_simp
     refine hK.out _ _ ?_ (fun _ => ?_)
     · exact hS.alloc (Obj.cells (entL 0 (.slice none 0 0) (fun _ => 0)).toArray 28)
     clear hK K
     try simp only [Act.put, List.setIfInBounds_toArray, List.set_cons_zero, List.set_cons_succ]
     have hS2 := hS.alloc (Obj.cells (entL 0 (.slice none 0 0) (fun _ => 0)).toArray 28)
     have gg7 := hS.sz
     have hh7 := there_box w0
     have ll7 : w0.heap.size < (w0.alloc (Obj.cells (entL 0 (.slice none 0 0) (fun _ => 0)).toArray 28)).heap.size := by simp
     have hh4' := hh4.block (Below.heap_alloc w0 (Obj.cells (entL 0 (.slice none 0 0) (fun _ => 0)).toArray 28) b4 ll4)
     have ll4' : b4 < (w0.alloc (Obj.cells (entL 0 (.slice none 0 0) (fun _ => 0)).toArray 28)).heap.size := by simp; omega
     have nn74 : w0.heap.size ≠ b4 := by omega
     have hh1' := hh1.block (Below.heap_alloc w0 (Obj.cells (entL 0 (.slice none 0 0) (fun _ => 0)).toArray 28) b1 ll1)
     have ll1' : b1 < (w0.alloc (Obj.cells (entL 0 (.slice none 0 0) (fun _ => 0)).toArray 28)).heap.size := by simp; omega
     have nn71 : w0.heap.size ≠ b1 := by omega
     clear hS hh4 ll4 hh1 ll1
     have hh4 := hh4'
     have ll4 := ll4'
     clear hh4' ll4'
     have hh1 := hh1'
     have ll1 := ll1'
     clear hh1' ll1'
     have hS := hS2
     clear hS2
     generalize w0.alloc (Obj.cells (entL 0 (.slice none 0 0) (fun _ => 0)).toArray 28) = w1 at *
     generalize w0.heap.size = b7 at *
     try clear w0
     obtain ⟨w0, rfl⟩ : ∃ x, x = w1 := ⟨_, rfl⟩
     refine wpAnyH_ready (rs := [6]) (by kernel_rfl) (by simp) ?_
     refine AllReadyH.cons rfl (fun K hK => ?_) AllReadyH.nil
     ·
      go_simp
      refine hK.out _ _ ?_ (fun _ => ?_)
      · exact hS.alloc (Obj.cells (entL 0 (.slice none 0 0) (fun _ => 0)).toArray 28)
      clear hK K
      try simp only [Act.put, List.setIfInBounds_toArray, List.set_cons_zero, List.set_cons_succ]
      have hS2 := hS.alloc (Obj.cells (entL 0 (.slice none 0 0) (fun _ => 0)).toArray 28)
      have gg6 := hS.sz
      have hh6 := there_box w0
      have ll6 : w0.heap.size < (w0.alloc (Obj.cells (entL 0 (.slice none 0 0) (fun _ => 0)).toArray 28)).heap.size := by simp
      have hh4' := hh4.block (Below.heap_alloc w0 (Obj.cells (entL 0 (.slice none 0 0) (fun _ => 0)).toArray 28) b4 ll4)
      have ll4' : b4 < (w0.alloc (Obj.cells (entL 0 (.slice none 0 0) (fun _ => 0)).toArray 28)).heap.size := by simp; omega
      have nn64 : w0.heap.size ≠ b4 := by omega
      have hh1' := hh1.block (Below.heap_alloc w0 (Obj.cells (entL 0 (.slice none 0 0) (fun _ => 0)).toArray 28) b1 ll1)
      have ll1' : b1 < (w0.alloc (Obj.cells (entL 0 (.slice none 0 0) (fun _ => 0)).toArray 28)).heap.size := by simp; omega
      have nn61 : w0.heap.size ≠ b1 := by omega
      have hh7' := there_block hh7 (Below.heap_alloc w0 (Obj.cells (entL 0 (.slice none 0 0) (fun _ => 0)).toArray 28) b7 ll7)
      have ll7' : b7 < (w0.alloc (Obj.cells (entL 0 (.slice none 0 0) (fun _ => 0)).toArray 28)).heap.size := by simp; omega
      have nn67 : w0.heap.size ≠ b7 := by omega
      clear hS hh4 ll4 hh1 ll1 hh7 ll7
      have hh4 := hh4'
      have ll4 := ll4'
      clear hh4' ll4'
      have hh1 := hh1'
      have ll1 := ll1'
      clear hh1' ll1'
      have hh7 := hh7'
      have ll7 := ll7'
      clear hh7' ll7'
      have hS := hS2
      clear hS2
      generalize w0.alloc (Obj.cells (entL 0 (.slice none 0 0) (fun _ => 0)).toArray 28) = w1 at *
      generalize w0.heap.size = b6 at *
      try clear w0
      obtain ⟨w0, rfl⟩ : ∃ x, x = w1 := ⟨_, rfl⟩
      refine wpAnyH_ready (rs := [8]) (by kernel_rfl) (by simp) ?_
      refine AllReadyH.cons rfl (fun K hK => ?_) AllReadyH.nil
      ·
       rw [if_pos (by rfl)]
       refine wp_store_mid 28 _ _ rfl b6 0 (entL 0 (.slice (some ⟨b1, 0, none⟩) 1 1) (fun _ => 0)).toArray rfl rfl (by rw [List.size_toArray, entL_len]; exact hh6) (by rw [List.size_toArray]; exact size_ent _ _ _) (entL_one _ _ _ _ _) ?_
       rw [show (entL 0 (.slice (some ⟨b1, 0, none⟩) 1 1) (fun _ => 0)).toArray.toList = (entL 0 (.slice (some ⟨b1, 0, none⟩) 1 1) (fun _ => 0)) from rfl]
       have hS2 := hS.store b6 gg6 (entL 0 (.slice (some ⟨b1, 0, none⟩) 1 1) (fun _ => 0))
       refine hK.out _ _ hS2 (fun _ => ?_)
       clear hK K
       try simp only [Act.put, List.setIfInBounds_toArray, List.set_cons_zero, List.set_cons_succ]
       have mm6 := entAt_stored hh6 0 (.slice (some ⟨b1, 0, none⟩) 1 1) (fun _ => 0)
       have hh1' := hh1.block (setCells_other b6 b1 (by omega) (entL 0 (.slice (some ⟨b1, 0, none⟩) 1 1) (fun _ => 0)) 0 w0)
       have hh4' := hh4.block (setCells_other b6 b4 (by omega) (entL 0 (.slice (some ⟨b1, 0, none⟩) 1 1) (fun _ => 0)) 0 w0)
       have hh7' := there_block hh7 (setCells_other b6 b7 (by omega) (entL 0 (.slice (some ⟨b1, 0, none⟩) 1 1) (fun _ => 0)) 0 w0)
       have ll1' : b1 < (w0.setCells b6 0 (entL 0 (.slice (some ⟨b1, 0, none⟩) 1 1) (fun _ => 0))).heap.size := by rw [setCells_size]; exact ll1
       have ll4' : b4 < (w0.setCells b6 0 (entL 0 (.slice (some ⟨b1, 0, none⟩) 1 1) (fun _ => 0))).heap.size := by rw [setCells_size]; exact ll4
       have ll6' : b6 < (w0.setCells b6 0 (entL 0 (.slice (some ⟨b1, 0, none⟩) 1 1) (fun _ => 0))).heap.size := by rw [setCells_size]; exact ll6
       have ll7' : b7 < (w0.setCells b6 0 (entL 0 (.slice (some ⟨b1, 0, none⟩) 1 1) (fun _ => 0))).heap.size := by rw [setCells_size]; exact ll7
       clear hS hh6 hh1 hh4 hh7 ll1 ll4 ll6 ll7
       have hh1 := hh1'
       clear hh1'
       have hh4 := hh4'
       clear hh4'
       have hh7 := hh7'
       clear hh7'
       have ll1 := ll1'
       clear ll1'
       have ll4 := ll4'
       clear ll4'
       have ll6 := ll6'
       clear ll6'
       have ll7 := ll7'
       clear ll7'
       have hS := hS2
       clear hS2
       generalize w0.setCells b6 0 (entL 0 (.slice (some ⟨b1, 0, none⟩) 1 1) (fun _ => 0)) = w1 at *
       try clear w0
       obtain ⟨w0, rfl⟩ : ∃ x, x = w1 := ⟨_, rfl⟩
       refine wpAnyH_ready (rs := [9]) (by kernel_rfl) (by simp) ?_
       refine AllReadyH.cons rfl (fun K hK => ?_) AllReadyH.nil
       ·
        rw [if_pos (by rfl)]
        refine wp_store_mid 28 _ _ rfl b7 0 (entL 0 (.slice (some ⟨b4, 0, none⟩) 1 1) (fun _ => 0)).toArray rfl rfl (by rw [List.size_toArray, entL_len]; exact hh7) (by rw [List.size_toArray]; exact size_ent _ _ _) (entL_one _ _ _ _ _) ?_
        rw [show (entL 0 (.slice (some ⟨b4, 0, none⟩) 1 1) (fun _ => 0)).toArray.toList = (entL 0 (.slice (some ⟨b4, 0, none⟩) 1 1) (fun _ => 0)) from rfl]
        have hS2 := hS.store b7 gg7 (entL 0 (.slice (some ⟨b4, 0, none⟩) 1 1) (fun _ => 0))
        refine hK.out _ _ hS2 (fun _ => ?_)
        clear hK K
        try simp only [Act.put, List.setIfInBounds_toArray, List.set_cons_zero, List.set_cons_succ]
        have mm7 := entAt_stored hh7 0 (.slice (some ⟨b4, 0, none⟩) 1 1) (fun _ => 0)
        have hh1' := hh1.block (setCells_other b7 b1 (by omega) (entL 0 (.slice (some ⟨b4, 0, none⟩) 1 1) (fun _ => 0)) 0 w0)
        have hh4' := hh4.block (setCells_other b7 b4 (by omega) (entL 0 (.slice (some ⟨b4, 0, none⟩) 1 1) (fun _ => 0)) 0 w0)
        have mm6' := mm6.block (setCells_other b7 b6 (by omega) (entL 0 (.slice (some ⟨b4, 0, none⟩) 1 1) (fun _ => 0)) 0 w0)
        have ll1' : b1 < (w0.setCells b7 0 (entL 0 (.slice (some ⟨b4, 0, none⟩) 1 1) (fun _ => 0))).heap.size := by rw [setCells_size]; exact ll1
        have ll4' : b4 < (w0.setCells b7 0 (entL 0 (.slice (some ⟨b4, 0, none⟩) 1 1) (fun _ => 0))).heap.size := by rw [setCells_size]; exact ll4
        have ll6' : b6 < (w0.setCells b7 0 (entL 0 (.slice (some ⟨b4, 0, none⟩) 1 1) (fun _ => 0))).heap.size := by rw [setCells_size]; exact ll6
        have ll7' : b7 < (w0.setCells b7 0 (entL 0 (.slice (some ⟨b4, 0, none⟩) 1 1) (fun _ => 0))).heap.size := by rw [setCells_size]; exact ll7
        clear hS hh7 hh1 hh4 mm6 ll1 ll4 ll6 ll7
        have hh1 := hh1'
        clear hh1'
        have hh4 := hh4'
        clear hh4'
        have mm6 := mm6'
        clear mm6'
        have ll1 := ll1'
        clear ll1'
        have ll4 := ll4'
        clear ll4'
        have ll6 := ll6'
        clear ll6'
        have ll7 := ll7'
        clear ll7'
        have hS := hS2
        clear hS2
        generalize w0.setCells b7 0 (entL 0 (.slice (some ⟨b4, 0, none⟩) 1 1) (fun _ => 0)) = w1 at *
        try clear w0
        obtain ⟨w0, rfl⟩ : ∃ x, x = w1 := ⟨_, rfl⟩
        refine wpAnyH_done (by kernel_rfl) ?_ _
        exact hQn _ _ _ _ _ _ b1 b4 b6 b7 w0 hh1 hh4 mm6 mm7 hS
   ·
    go_simp
    refine hK.out _ _ ?_ (fun _ => ?_)
    · exact hS.alloc (Obj.cells (entL 0 (.slice none 0 0) (fun _ => 0)).toArray 28)
    clear hK K
    try simp only [Act.put, List.setIfInBounds_toArray, List.set_cons_zero, List.set_cons_succ]
    have hS2 := hS.alloc (Obj.cells (entL 0 (.slice none 0 0) (fun _ => 0)).toArray 28)
    have gg6 := hS.sz
    have hh6 := there_box w0
    have ll6 : w0.heap.size < (w0.alloc (Obj.cells (entL 0 (.slice none 0 0) (fun _ => 0)).toArray 28)).heap.size := by simp
    have hh4' := hh4.block (Below.heap_alloc w0 (Obj.cells (entL 0 (.slice none 0 0) (fun _ => 0)).toArray 28) b4 ll4)
    have ll4' : b4 < (w0.alloc (Obj.cells (entL 0 (.slice none 0 0) (fun _ => 0)).toArray 28)).heap.size := by simp; omega
    have nn64 : w0.heap.size ≠ b4 := by omega
    clear hS hh4 ll4
    have hh4 := hh4'
    have ll4 := ll4'
    clear hh4' ll4'
    have hS := hS2
    clear hS2
    generalize w0.alloc (Obj.cells (entL 0 (.slice none 0 0) (fun _ => 0)).toArray 28) = w1 at *
    generalize w0.heap.size = b6 at *
    try clear w0
    obtain ⟨w0, rfl⟩ : ∃ x, x = w1 := ⟨_, rfl⟩
    refine wpAnyH_ready (rs := [1, 7]) (by kernel_rfl) (by simp) ?_
    refine AllReadyH.cons rfl (fun K hK => ?_) (AllReadyH.cons rfl (fun K hK => ?_) AllReadyH.nil)
    ·
     go_simp
     refine hK.out _ _ ?_ (fun _ => ?_)
     · exact hS.alloc (Obj.cells #[.int .i64 k1, .int .i64 s1, .int .i64 g1, .int .i64 p1] 43)
     clear hK K
     try simp only [Act.put, List.setIfInBounds_toArray, List.set_cons_zero, List.set_cons_succ]
     have hS2 := hS.alloc (Obj.cells #[.int .i64 k1, .int .i64 s1, .int .i64 g1, .int .i64 p1] 43)
     have gg1 := hS.sz
     have hh1 := evsAt_box k1 s1 g1 p1 w0
     have ll1 : w0.heap.size < (w0.alloc (Obj.cells #[.int .i64 k1, .int .i64 s1, .int .i64 g1, .int .i64 p1] 43)).heap.size := by simp
     have hh4' := hh4.block (Below.heap_alloc w0 (Obj.cells #[.int .i64 k1, .int .i64 s1, .int .i64 g1, .int .i64 p1] 43) b4 ll4)
     have ll4' : b4 < (w0.alloc (Obj.cells #[.int .i64 k1, .int .i64 s1, .int .i64 g1, .int .i64 p1] 43)).heap.size := by simp; omega
     have nn14 : w0.heap.size ≠ b4 := by omega
     have hh6' := there_block hh6 (Below.heap_alloc w0 (Obj.cells #[.int .i64 k1, .int .i64 s1, .int .i64 g1, .int .i64 p1] 43) b6 ll6)
     have ll6' : b6 < (w0.alloc (Obj.cells #[.int .i64 k1, .int .i64 s1, .int .i64 g1, .int .i64 p1] 43)).heap.size := by simp; omega
     have nn16 : w0.heap.size ≠ b6 := by omega
     clear hS hh4 ll4 hh6 ll6
     have hh4 := hh4'
     have ll4 := ll4'
     clear hh4' ll4'
     have hh6 := hh6'
     have ll6 := ll6'
     clear hh6' ll6'
     have hS := hS2
     clear hS2
     generalize w0.alloc (Obj.cells #[.int .i64 k1, .int .i64 s1, .int .i64 g1, .int .i64 p1] 43) = w1 at *
     generalize w0.heap.size = b1 at *
     try clear w0
     obtain ⟨w0, rfl⟩ : ∃ x, x = w1 := ⟨_, rfl⟩
     refine wpAnyH_take (i := 2) (v := ?_) rfl (by kernel_rfl) (by kernel_rfl) (by kernel_rfl) (hQp 11 _) (Or.inl ⟨by rfl, ?_⟩) hS ?_
     rotate_left 1
     · intro w hw; refine build_run _ _ 10 b1 _ ?_ ?_ <;> rfl
     try simp only [Act.put, List.setIfInBounds_toArray, List.set_cons_zero, List.set_cons_succ]
     refine wpAnyH_ready (rs := [7]) (by kernel_rfl) (by simp) ?_
     refine AllReadyH.cons rfl (fun K hK => ?_) AllReadyH.nil
     ·
      go_simp
      refine hK.out _ _ ?_ (fun _ => ?_)
      · exact hS.alloc (Obj.cells (entL 0 (.slice none 0 0) (fun _ => 0)).toArray 28)
      clear hK K
      try simp only [Act.put, List.setIfInBounds_toArray, List.set_cons_zero, List.set_cons_succ]
      have hS2 := hS.alloc (Obj.cells (entL 0 (.slice none 0 0) (fun _ => 0)).toArray 28)
      have gg7 := hS.sz
      have hh7 := there_box w0
      have ll7 : w0.heap.size < (w0.alloc (Obj.cells (entL 0 (.slice none 0 0) (fun _ => 0)).toArray 28)).heap.size := by simp
      have hh4' := hh4.block (Below.heap_alloc w0 (Obj.cells (entL 0 (.slice none 0 0) (fun _ => 0)).toArray 28) b4 ll4)
      have ll4' : b4 < (w0.alloc (Obj.cells (entL 0 (.slice none 0 0) (fun _ => 0)).toArray 28)).heap.size := by simp; omega
      have nn74 : w0.heap.size ≠ b4 := by omega
      have hh6' := there_block hh6 (Below.heap_alloc w0 (Obj.cells (entL 0 (.slice none 0 0) (fun _ => 0)).toArray 28) b6 ll6)
      have ll6' : b6 < (w0.alloc (Obj.cells (entL 0 (.slice none 0 0) (fun _ => 0)).toArray 28)).heap.size := by simp; omega
      have nn76 : w0.heap.size ≠ b6 := by omega
      have hh1' := hh1.block (Below.heap_alloc w0 (Obj.cells (entL 0 (.slice none 0 0) (fun _ => 0)).toArray 28) b1 ll1)
      have ll1' : b1 < (w0.alloc (Obj.cells (entL 0 (.slice none 0 0) (fun _ => 0)).toArray 28)).heap.size := by simp; omega
      have nn71 : w0.heap.size ≠ b1 := by omega
      clear hS hh4 ll4 hh6 ll6 hh1 ll1
      have hh4 := hh4'
      have ll4 := ll4'
      clear hh4' ll4'
      have hh6 := hh6'
      have ll6 := ll6'
      clear hh6' ll6'
      have hh1 := hh1'
      have ll1 := ll1'
      clear hh1' ll1'
      have hS := hS2
      clear hS2
      generalize w0.alloc (Obj.cells (entL 0 (.slice none 0 0) (fun _ => 0)).toArray 28) = w1 at *
      generalize w0.heap.size = b7 at *
      try clear w0
      obtain ⟨w0, rfl⟩ : ∃ x, x = w1 := ⟨_, rfl⟩
      refine wpAnyH_ready (rs := [8]) (by kernel_rfl) (by simp) ?_
      refine AllReadyH.cons rfl (fun K hK => ?_) AllReadyH.nil
      ·
       rw [if_pos (by rfl)]
       refine wp_store_mid 28 _ _ rfl b6 0 (entL 0 (.slice (some ⟨b1, 0, none⟩) 1 1) (fun _ => 0)).toArray rfl rfl (by rw [List.size_toArray, entL_len]; exact hh6) (by rw [List.size_toArray]; exact size_ent _ _ _) (entL_one _ _ _ _ _) ?_
       rw [show (entL 0 (.slice (some ⟨b1, 0, none⟩) 1 1) (fun _ => 0)).toArray.toList = (entL 0 (.slice (some ⟨b1, 0, none⟩) 1 1) (fun _ => 0)) from rfl]
       have hS2 := hS.store b6 gg6 (entL 0 (.slice (some ⟨b1, 0, none⟩) 1 1) (fun _ => 0))
       refine hK.out _ _ hS2 (fun _ => ?_)
       clear hK K
       try simp only [Act.put, List.setIfInBounds_toArray, List.set_cons_zero, List.set_cons_succ]
       have mm6 := entAt_stored hh6 0 (.slice (some ⟨b1, 0, none⟩) 1 1) (fun _ => 0)
       have hh1' := hh1.block (setCells_other b6 b1 (by omega) (entL 0 (.slice (some ⟨b1, 0, none⟩) 1 1) (fun _ => 0)) 0 w0)
       have hh4' := hh4.block (setCells_other b6 b4 (by omega) (entL 0 (.slice (some ⟨b1, 0, none⟩) 1 1) (fun _ => 0)) 0 w0)
       have hh7' := there_block hh7 (setCells_other b6 b7 (by omega) (entL 0 (.slice (some ⟨b1, 0, none⟩) 1 1) (fun _ => 0)) 0 w0)
       have ll1' : b1 < (w0.setCells b6 0 (entL 0 (.slice (some ⟨b1, 0, none⟩) 1 1) (fun _ => 0))).heap.size := by rw [setCells_size]; exact ll1
       have ll4' : b4 < (w0.setCells b6 0 (entL 0 (.slice (some ⟨b1, 0, none⟩) 1 1) (fun _ => 0))).heap.size := by rw [setCells_size]; exact ll4
       have ll6' : b6 < (w0.setCells b6 0 (entL 0 (.slice (some ⟨b1, 0, none⟩) 1 1) (fun _ => 0))).heap.size := by rw [setCells_size]; exact ll6
       have ll7' : b7 < (w0.setCells b6 0 (entL 0 (.slice (some ⟨b1, 0, none⟩) 1 1) (fun _ => 0))).heap.size := by rw [setCells_size]; exact ll7
       clear hS hh6 hh1 hh4 hh7 ll1 ll4 ll6 ll7
       have hh1 := hh1'
       clear hh1'
       have hh4 := hh4'
       clear hh4'
       have hh7 := hh7'
       clear hh7'
       have ll1 := ll1'
       clear ll1'
       have ll4 := ll4'
       clear ll4'
       have ll6 := ll6'
       clear ll6'
       have ll7 := ll7'
       clear ll7'
       have hS := hS2
       clear hS2
       generalize w0.setCells b6 0 (entL 0 (.slice (some ⟨b1, 0, none⟩) 1 1) (fun _ => 0)) = w1 at *
       try clear w0
       obtain ⟨w0, rfl⟩ : ∃ x, x = w1 := ⟨_, rfl⟩
       refine wpAnyH_ready (rs := [9]) (by kernel_rfl) (by simp) ?_
       refine AllReadyH.cons rfl (fun K hK => ?_) AllReadyH.nil
       ·
        rw [if_pos (by rfl)]
        refine wp_store_mid 28 _ _ rfl b7 0 (entL 0 (.slice (some ⟨b4, 0, none⟩) 1 1) (fun _ => 0)).toArray rfl rfl (by rw [List.size_toArray, entL_len]; exact hh7) (by rw [List.size_toArray]; exact size_ent _ _ _) (entL_one _ _ _ _ _) ?_
        rw [show (entL 0 (.slice (some ⟨b4, 0, none⟩) 1 1) (fun _ => 0)).toArray.toList = (entL 0 (.slice (some ⟨b4, 0, none⟩) 1 1) (fun _ => 0)) from rfl]
        have hS2 := hS.store b7 gg7 (entL 0 (.slice (some ⟨b4, 0, none⟩) 1 1) (fun _ => 0))
        refine hK.out _ _ hS2 (fun _ => ?_)
        clear hK K
        try simp only [Act.put, List.setIfInBounds_toArray, List.set_cons_zero, List.set_cons_succ]
        have mm7 := entAt_stored hh7 0 (.slice (some ⟨b4, 0, none⟩) 1 1) (fun _ => 0)
        have hh1' := hh1.block (setCells_other b7 b1 (by omega) (entL 0 (.slice (some ⟨b4, 0, none⟩) 1 1) (fun _ => 0)) 0 w0)
        have hh4' := hh4.block (setCells_other b7 b4 (by omega) (entL 0 (.slice (some ⟨b4, 0, none⟩) 1 1) (fun _ => 0)) 0 w0)
        have mm6' := mm6.block (setCells_other b7 b6 (by omega) (entL 0 (.slice (some ⟨b4, 0, none⟩) 1 1) (fun _ => 0)) 0 w0)
        have ll1' : b1 < (w0.setCells b7 0 (entL 0 (.slice (some ⟨b4, 0, none⟩) 1 1) (fun _ => 0))).heap.size := by rw [setCells_size]; exact ll1
        have ll4' : b4 < (w0.setCells b7 0 (entL 0 (.slice (some ⟨b4, 0, none⟩) 1 1) (fun _ => 0))).heap.size := by rw [setCells_size]; exact ll4
        have ll6' : b6 < (w0.setCells b7 0 (entL 0 (.slice (some ⟨b4, 0, none⟩) 1 1) (fun _ => 0))).heap.size := by rw [setCells_size]; exact ll6
        have ll7' : b7 < (w0.setCells b7 0 (entL 0 (.slice (some ⟨b4, 0, none⟩) 1 1) (fun _ => 0))).heap.size := by rw [setCells_size]; exact ll7
        clear hS hh7 hh1 hh4 mm6 ll1 ll4 ll6 ll7
        have hh1 := hh1'
        clear hh1'
        have hh4 := hh4'
        clear hh4'
        have mm6 := mm6'
        clear mm6'
        have ll1 := ll1'
        clear ll1'
        have ll4 := ll4'
        clear ll4'
        have ll6 := ll6'
        clear ll6'
        have ll7 := ll7'
        clear ll7'
        have hS := hS2
        clear hS2
        generalize w0.setCells b7 0 (entL 0 (.slice (some ⟨b4, 0, none⟩) 1 1) (fun _ => 0)) = w1 at *
        try clear w0
        obtain ⟨w0, rfl⟩ : ∃ x, x = w1 := ⟨_, rfl⟩
        refine wpAnyH_done (by kernel_rfl) ?_ _
        exact hQn _ _ _ _ _ _ b1 b4 b6 b7 w0 hh1 hh4 mm6 mm7 hS
    ·
     go_simp
     refine hK.out _ _ ?_ (fun _ => ?_)
     · exact hS.alloc (Obj.cells (entL 0 (.slice none 0 0) (fun _ => 0)).toArray 28)
     clear hK K
     try simp only [Act.put, List.setIfInBounds_toArray, List.set_cons_zero, List.set_cons_succ]
     have hS2 := hS.alloc (Obj.cells (entL 0 (.slice none 0 0) (fun _ => 0)).toArray 28)
     have gg7 := hS.sz
     have hh7 := there_box w0
     have ll7 : w0.heap.size < (w0.alloc (Obj.cells (entL 0 (.slice none 0 0) (fun _ => 0)).toArray 28)).heap.size := by simp
     have hh4' := hh4.block (Below.heap_alloc w0 (Obj.cells (entL 0 (.slice none 0 0) (fun _ => 0)).toArray 28) b4 ll4)
     have ll4' : b4 < (w0.alloc (Obj.cells (entL 0 (.slice none 0 0) (fun _ => 0)).toArray 28)).heap.size := by simp; omega
     have nn74 : w0.heap.size ≠ b4 := by omega
     have hh6' := there_block hh6 (Below.heap_alloc w0 (Obj.cells (entL 0 (.slice none 0 0) (fun _ => 0)).toArray 28) b6 ll6)
     have ll6' : b6 < (w0.alloc (Obj.cells (entL 0 (.slice none 0 0) (fun _ => 0)).toArray 28)).heap.size := by simp; omega
     have nn76 : w0.heap.size ≠ b6 := by omega
     clear hS hh4 ll4 hh6 ll6
     have hh4 := hh4'
     have ll4 := ll4'
     clear hh4' ll4'
     have hh6 := hh6'
     have ll6 := ll6'
     clear hh6' ll6'
     have hS := hS2
     clear hS2
     generalize w0.alloc (Obj.cells (entL 0 (.slice none 0 0) (fun _ => 0)).toArray 28) = w1 at *
     generalize w0.heap.size = b7 at *
     try clear w0
     obtain ⟨w0, rfl⟩ : ∃ x, x = w1 := ⟨_, rfl⟩
     refine wpAnyH_ready (rs := [1]) (by kernel_rfl) (by simp) ?_
     refine AllReadyH.cons rfl (fun K hK => ?_) AllReadyH.nil
     ·
      go_simp
      refine hK.out _ _ ?_ (fun _ => ?_)
      · exact hS.alloc (Obj.cells #[.int .i64 k1, .int .i64 s1, .int .i64 g1, .int .i64 p1] 43)
      clear hK K
      try simp only [Act.put, List.setIfInBounds_toArray, List.set_cons_zero, List.set_cons_succ]
      have hS2 := hS.alloc (Obj.cells #[.int .i64 k1, .int .i64 s1, .int .i64 g1, .int .i64 p1] 43)
      have gg1 := hS.sz
      have hh1 := evsAt_box k1 s1 g1 p1 w0
      have ll1 : w0.heap.size < (w0.alloc (Obj.cells #[.int .i64 k1, .int .i64 s1, .int .i64 g1, .int .i64 p1] 43)).heap.size := by simp
      have hh4' := hh4.block (Below.heap_alloc w0 (Obj.cells #[.int .i64 k1, .int .i64 s1, .int .i64 g1, .int .i64 p1] 43) b4 ll4)
      have ll4' : b4 < (w0.alloc (Obj.cells #[.int .i64 k1, .int .i64 s1, .int .i64 g1, .int .i64 p1] 43)).heap.size := by simp; omega
      have nn14 : w0.heap.size ≠ b4 := by omega
      have hh6' := there_block hh6 (Below.heap_alloc w0 (Obj.cells #[.int .i64 k1, .int .i64 s1, .int .i64 g1, .int .i64 p1] 43) b6 ll6)
      have ll6' : b6 < (w0.alloc (Obj.cells #[.int .i64 k1, .int .i64 s1, .int .i64 g1, .int .i64 p1] 43)).heap.size := by simp; omega
      have nn16 : w0.heap.size ≠ b6 := by omega
      have hh7' := there_block hh7 (Below.heap_alloc w0 (Obj.cells #[.int .i64 k1, .int .i64 s1, .int .i64 g1, .int .i64 p1] 43) b7 ll7)
      have ll7' : b7 < (w0.alloc (Obj.cells #[.int .i64 k1, .int .i64 s1, .int .i64 g1, .int .i64 p1] 43)).heap.size := by simp; omega
      have nn17 : w0.heap.size ≠ b7 := by omega
      clear hS hh4 ll4 hh6 ll6 hh7 ll7
      have hh4 := hh4'
      have ll4 := ll4'
      clear hh4' ll4'
      have hh6 := hh6'
      have ll6 := ll6'
      clear hh6' ll6'
      have hh7 := hh7'
      have ll7 := ll7'
      clear hh7' ll7'
      have hS := hS2
      clear hS2
      generalize w0.alloc (Obj.cells #[.int .i64 k1, .int .i64 s1, .int .i64 g1, .int .i64 p1] 43) = w1 at *
      generalize w0.heap.size = b1 at *
      try clear w0
      obtain ⟨w0, rfl⟩ : ∃ x, x = w1 := ⟨_, rfl⟩
      refine wpAnyH_take (i := 2) (v := ?_) rfl (by kernel_rfl) (by kernel_rfl) (by kernel_rfl) (hQp 11 _) (Or.inl ⟨by rfl, ?_⟩) hS ?_
      rotate_left 1
      · intro w hw; refine build_run _ _ 10 b1 _ ?_ ?_ <;> rfl
      try simp only [Act.put, List.setIfInBounds_toArray, List.set_cons_zero, List.set_cons_succ]
      refine wpAnyH_ready (rs := [8]) (by kernel_rfl) (by simp) ?_
      refine AllReadyH.cons rfl (fun K hK => ?_) AllReadyH.nil
      ·
       rw [if_pos (by rfl)]
       refine wp_store_mid 28 _ _ rfl b6 0 (entL 0 (.slice (some ⟨b1, 0, none⟩) 1 1) (fun _ => 0)).toArray rfl rfl (by rw [List.size_toArray, entL_len]; exact hh6) (by rw [List.size_toArray]; exact size_ent _ _ _) (entL_one _ _ _ _ _) ?_
       rw [show (entL 0 (.slice (some ⟨b1, 0, none⟩) 1 1) (fun _ => 0)).toArray.toList = (entL 0 (.slice (some ⟨b1, 0, none⟩) 1 1) (fun _ => 0)) from rfl]
       have hS2 := hS.store b6 gg6 (entL 0 (.slice (some ⟨b1, 0, none⟩) 1 1) (fun _ => 0))
       refine hK.out _ _ hS2 (fun _ => ?_)
       clear hK K
       try simp only [Act.put, List.setIfInBounds_toArray, List.set_cons_zero, List.set_cons_succ]
       have mm6 := entAt_stored hh6 0 (.slice (some ⟨b1, 0, none⟩) 1 1) (fun _ => 0)
       have hh1' := hh1.block (setCells_other b6 b1 (by omega) (entL 0 (.slice (some ⟨b1, 0, none⟩) 1 1) (fun _ => 0)) 0 w0)
       have hh4' := hh4.block (setCells_other b6 b4 (by omega) (entL 0 (.slice (some ⟨b1, 0, none⟩) 1 1) (fun _ => 0)) 0 w0)
       have hh7' := there_block hh7 (setCells_other b6 b7 (by omega) (entL 0 (.slice (some ⟨b1, 0, none⟩) 1 1) (fun _ => 0)) 0 w0)
       have ll1' : b1 < (w0.setCells b6 0 (entL 0 (.slice (some ⟨b1, 0, none⟩) 1 1) (fun _ => 0))).heap.size := by rw [setCells_size]; exact ll1
       have ll4' : b4 < (w0.setCells b6 0 (entL 0 (.slice (some ⟨b1, 0, none⟩) 1 1) (fun _ => 0))).heap.size := by rw [setCells_size]; exact ll4
       have ll6' : b6 < (w0.setCells b6 0 (entL 0 (.slice (some ⟨b1, 0, none⟩) 1 1) (fun _ => 0))).heap.size := by rw [setCells_size]; exact ll6
       have ll7' : b7 < (w0.setCells b6 0 (entL 0 (.slice (some ⟨b1, 0, none⟩) 1 1) (fun _ => 0))).heap.size := by rw [setCells_size]; exact ll7
       clear hS hh6 hh1 hh4 hh7 ll1 ll4 ll6 ll7
       have hh1 := hh1'
       clear hh1'
       have hh4 := hh4'
       clear hh4'
       have hh7 := hh7'
       clear hh7'
       have ll1 := ll1'
       clear ll1'
       have ll4 := ll4'
       clear ll4'
       have ll6 := ll6'
       clear ll6'
       have ll7 := ll7'
       clear ll7'
       have hS := hS2
       clear hS2
       generalize w0.setCells b6 0 (entL 0 (.slice (some ⟨b1, 0, none⟩) 1 1) (fun _ => 0)) = w1 at *
       try clear w0
       obtain ⟨w0, rfl⟩ : ∃ x, x = w1 := ⟨_, rfl⟩
       refine wpAnyH_ready (rs := [9]) (by kernel_rfl) (by simp) ?_
       refine AllReadyH.cons rfl (fun K hK => ?_) AllReadyH.nil
       ·
        rw [if_pos (by rfl)]
        refine wp_store_mid 28 _ _ rfl b7 0 (entL 0 (.slice (some ⟨b4, 0, none⟩) 1 1) (fun _ => 0)).toArray rfl rfl (by rw [List.size_toArray, entL_len]; exact hh7) (by rw [List.size_toArray]; exact size_ent _ _ _) (entL_one _ _ _ _ _) ?_
        rw [show (entL 0 (.slice (some ⟨b4, 0, none⟩) 1 1) (fun _ => 0)).toArray.toList = (entL 0 (.slice (some ⟨b4, 0, none⟩) 1 1) (fun _ => 0)) from rfl]
        have hS2 := hS.store b7 gg7 (entL 0 (.slice (some ⟨b4, 0, none⟩) 1 1) (fun _ => 0))
        refine hK.out _ _ hS2 (fun _ => ?_)
        clear hK K
        try simp only [Act.put, List.setIfInBounds_toArray, List.set_cons_zero, List.set_cons_succ]
        have mm7 := entAt_stored hh7 0 (.slice (some ⟨b4, 0, none⟩) 1 1) (fun _ => 0)
        have hh1' := hh1.block (setCells_other b7 b1 (by omega) (entL 0 (.slice (some ⟨b4, 0, none⟩) 1 1) (fun _ => 0)) 0 w0)
        have hh4' := hh4.block (setCells_other b7 b4 (by omega) (entL 0 (.slice (some ⟨b4, 0, none⟩) 1 1) (fun _ => 0)) 0 w0)
        have mm6' := mm6.block (setCells_other b7 b6 (by omega) (entL 0 (.slice (some ⟨b4, 0, none⟩) 1 1) (fun _ => 0)) 0 w0)
        have ll1' : b1 < (w0.setCells b7 0 (entL 0 (.slice (some ⟨b4, 0, none⟩) 1 1) (fun _ => 0))).heap.size := by rw [setCells_size]; exact ll1
        have ll4' : b4 < (w0.setCells b7 0 (entL 0 (.slice (some ⟨b4, 0, none⟩) 1 1) (fun _ => 0))).heap.size := by rw [setCells_size]; exact ll4
        have ll6' : b6 < (w0.setCells b7 0 (entL 0 (.slice (some ⟨b4, 0, none⟩) 1 1) (fun _ => 0))).heap.size := by rw [setCells_size]; exact ll6
        have ll7' : b7 < (w0.setCells b7 0 (entL 0 (.slice (some ⟨b4, 0, none⟩) 1 1) (fun _ => 0))).heap.size := by rw [setCells_size]; exact ll7
        clear hS hh7 hh1 hh4 mm6 ll1 ll4 ll6 ll7
        have hh1 := hh1'
        clear hh1'
        have hh4 := hh4'
        clear hh4'
        have mm6 := mm6'
        clear mm6'
        have ll1 := ll1'
        clear ll1'
        have ll4 := ll4'
        clear ll4'
        have ll6 := ll6'
        clear ll6'
        have ll7 := ll7'
        clear ll7'
        have hS := hS2
        clear hS2
        generalize w0.setCells b7 0 (entL 0 (.slice (some ⟨b4, 0, none⟩) 1 1) (fun _ => 0)) = w1 at *
        try clear w0
        obtain ⟨w0, rfl⟩ : ∃ x, x = w1 := ⟨_, rfl⟩
        refine wpAnyH_done (by kernel_rfl) ?_ _
        exact hQn _ _ _ _ _ _ b1 b4 b6 b7 w0 hh1 hh4 mm6 mm7 hS
   ·
    go_simp
    refine hK.out _ _ ?_ (fun _ => ?_)
    · exact hS.alloc (Obj.cells (entL 0 (.slice none 0 0) (fun _ => 0)).toArray 28)
    clear hK K
    try simp only [Act.put, List.setIfInBounds_toArray, List.set_cons_zero, List.set_cons_succ]
    have hS2 := hS.alloc (Obj.cells (entL 0 (.slice none 0 0) (fun _ => 0)).toArray 28)
    have gg7 := hS.sz
    have hh7 := there_box w0
    have ll7 : w0.heap.size < (w0.alloc (Obj.cells (entL 0 (.slice none 0 0) (fun _ => 0)).toArray 28)).heap.size := by simp
    have hh4' := hh4.block (Below.heap_alloc w0 (Obj.cells (entL 0 (.slice none 0 0) (fun _ => 0)).toArray 28) b4 ll4)
    have ll4' : b4 < (w0.alloc (Obj.cells (entL 0 (.slice none 0 0) (fun _ => 0)).toArray 28)).heap.size := by simp; omega
    have nn74 : w0.heap.size ≠ b4 := by omega
    clear hS hh4 ll4
    have hh4 := hh4'
    have ll4 := ll4'
    clear hh4' ll4'
    have hS := hS2
    clear hS2
    generalize w0.alloc (Obj.cells (entL 0 (.slice none 0 0) (fun _ => 0)).toArray 28) = w1 at *
    generalize w0.heap.size = b7 at *
    try clear w0
    obtain ⟨w0, rfl⟩ : ∃ x, x = w1 := ⟨_, rfl⟩
    refine wpAnyH_ready (rs := [1, 6]) (by kernel_rfl) (by simp) ?_
    refine AllReadyH.cons rfl (fun K hK => ?_) (AllReadyH.cons rfl (fun K hK => ?_) AllReadyH.nil)
    ·
     go_simp
     refine hK.out _ _ ?_ (fun _ => ?_)
     · exact hS.alloc (Obj.cells #[.int .i64 k1, .int .i64 s1, .int .i64 g1, .int .i64 p1] 43)
     clear hK K
     try simp only [Act.put, List.setIfInBounds_toArray, List.set_cons_zero, List.set_cons_succ]
     have hS2 := hS.alloc (Obj.cells #[.int .i64 k1, .int .i64 s1, .int .i64 g1, .int .i64 p1] 43)
     have gg1 := hS.sz
     have hh1 := evsAt_box k1 s1 g1 p1 w0
     have ll1 : w0.heap.size < (w0.alloc (Obj.cells #[.int .i64 k1, .int .i64 s1, .int .i64 g1, .int .i64 p1] 43)).heap.size := by simp
     have hh4' := hh4.block (Below.heap_alloc w0 (Obj.cells #[.int .i64 k1, .int .i64 s1, .int .i64 g1, .int .i64 p1] 43) b4 ll4)
     have ll4' : b4 < (w0.alloc (Obj.cells #[.int .i64 k1, .int .i64 s1, .int .i64 g1, .int .i64 p1] 43)).heap.size := by simp; omega
     have nn14 : w0.heap.size ≠ b4 := by omega
     have hh7' := there_block hh7 (Below.heap_alloc w0 (Obj.cells #[.int .i64 k1, .int .i64 s1, .int .i64 g1, .int .i64 p1] 43) b7 ll7)
     have ll7' : b7 < (w0.alloc (Obj.cells #[.int .i64 k1, .int .i64 s1, .int .i64 g1, .int .i64 p1] 43)).heap.size := by simp; omega
     have nn17 : w0.heap.size ≠ b7 := by omega
     clear hS hh4 ll4 hh7 ll7
     have hh4 := hh4'
     have ll4 := ll4'
     clear hh4' ll4'
     have hh7 := hh7'
     have ll7 := ll7'
     clear hh7' ll7'
     have hS := hS2
     clear hS2
     generalize w0.alloc (Obj.cells #[.int .i64 k1, .int .i64 s1, .int .i64 g1, .int .i64 p1] 43) = w1 at *
     generalize w0.heap.size = b1 at *
     try clear w0
     obtain ⟨w0, rfl⟩ : ∃ x, x = w1 := ⟨_, rfl⟩
     refine wpAnyH_take (i := 2) (v := ?_) rfl (by kernel_rfl) (by kernel_rfl) (by kernel_rfl) (hQp 11 _) (Or.inl ⟨by rfl, ?_⟩) hS ?_
     rotate_left 1
     · intro w hw; refine build_run _ _ 10 b1 _ ?_ ?_ <;> rfl
     try simp only [Act.put, List.setIfInBounds_toArray, List.set_cons_zero, List.set_cons_succ]
     refine wpAnyH_ready (rs := [6]) (by kernel_rfl) (by simp) ?_
     refine AllReadyH.cons rfl (fun K hK => ?_) AllReadyH.nil
     ·
      go_simp
      refine hK.out _ _ ?_ (fun _ => ?_)
      · exact hS.alloc (Obj.cells (entL 0 (.slice none 0 0) (fun _ => 0)).toArray 28)
      clear hK K
      try simp only [Act.put, List.setIfInBounds_toArray, List.set_cons_zero, List.set_cons_succ]
      have hS2 := hS.alloc (Obj.cells (entL 0 (.slice none 0 0) (fun _ => 0)).toArray 28)
      have gg6 := hS.sz
      have hh6 := there_box w0
      have ll6 : w0.heap.size < (w0.alloc (Obj.cells (entL 0 (.slice none 0 0) (fun _ => 0)).toArray 28)).heap.size := by simp
      have hh4' := hh4.block (Below.heap_alloc w0 (Obj.cells (entL 0 (.slice none 0 0) (fun _ => 0)).toArray 28) b4 ll4)
      have ll4' : b4 < (w0.alloc (Obj.cells (entL 0 (.slice none 0 0) (fun _ => 0)).toArray 28)).heap.size := by simp; omega
      have nn64 : w0.heap.size ≠ b4 := by omega
      have hh7' := there_block hh7 (Below.heap_alloc w0 (Obj.cells (entL 0 (.slice none 0 0) (fun _ => 0)).toArray 28) b7 ll7)
      have ll7' : b7 < (w0.alloc (Obj.cells (entL 0 (.slice none 0 0) (fun _ => 0)).toArray 28)).heap.size := by simp; omega
      have nn67 : w0.heap.size ≠ b7 := by omega
      have hh1' := hh1.block (Below.heap_alloc w0 (Obj.cells (entL 0 (.slice none 0 0) (fun _ => 0)).toArray 28) b1 ll1)
      have ll1' : b1 < (w0.alloc (Obj.cells (entL 0 (.slice none 0 0) (fun _ => 0)).toArray 28)).heap.size := by simp; omega
      have nn61 : w0.heap.size ≠ b1 := by omega
      clear hS hh4 ll4 hh7 ll7 hh1 ll1
      have hh4 := hh4'
      have ll4 := ll4'
      clear hh4' ll4'
      have hh7 := hh7'
      have ll7 := ll7'
      clear hh7' ll7'
      have hh1 := hh1'
      have ll1 := ll1'
      clear hh1' ll1'
      have hS := hS2
      clear hS2
      generalize w0.alloc (Obj.cells (entL 0 (.slice none 0 0) (fun _ => 0)).toArray 28) = w1 at *
      generalize w0.heap.size = b6 at *
      try clear w0
      obtain ⟨w0, rfl⟩ : ∃ x, x = w1 := ⟨_, rfl⟩
      refine wpAnyH_ready (rs := [8]) (by kernel_rfl) (by simp) ?_
      refine AllReadyH.cons rfl (fun K hK => ?_) AllReadyH.nil
      ·
       rw [if_pos (by rfl)]
       refine wp_store_mid 28 _ _ rfl b6 0 (entL 0 (.slice (some ⟨b1, 0, none⟩) 1 1) (fun _ => 0)).toArray rfl rfl (by rw [List.size_toArray, entL_len]; exact hh6) (by rw [List.size_toArray]; exact size_ent _ _ _) (entL_one _ _ _ _ _) ?_
       rw [show (entL 0 (.slice (some ⟨b1, 0, none⟩) 1 1) (fun _ => 0)).toArray.toList = (entL 0 (.slice (some ⟨b1, 0, none⟩) 1 1) (fun _ => 0)) from rfl]
       have hS2 := hS.store b6 gg6 (entL 0 (.slice (some ⟨b1, 0, none⟩) 1 1) (fun _ => 0))
       refine hK.out _ _ hS2 (fun _ => ?_)
       clear hK K
       try simp only [Act.put, List.setIfInBounds_toArray, List.set_cons_zero, List.set_cons_succ]
       have mm6 := entAt_stored hh6 0 (.slice (some ⟨b1, 0, none⟩) 1 1) (fun _ => 0)
       have hh1' := hh1.block (setCells_other b6 b1 (by omega) (entL 0 (.slice (some ⟨b1, 0, none⟩) 1 1) (fun _ => 0)) 0 w0)
       have hh4' := hh4.block (setCells_other b6 b4 (by omega) (entL 0 (.slice (some ⟨b1, 0, none⟩) 1 1) (fun _ => 0)) 0 w0)
       have hh7' := there_block hh7 (setCells_other b6 b7 (by omega) (entL 0 (.slice (some ⟨b1, 0, none⟩) 1 1) (fun _ => 0)) 0 w0)
       have ll1' : b1 < (w0.setCells b6 0 (entL 0 (.slice (some ⟨b1, 0, none⟩) 1 1) (fun _ => 0))).heap.size := by rw [setCells_size]; exact ll1
       have ll4' : b4 < (w0.setCells b6 0 (entL 0 (.slice (some ⟨b1, 0, none⟩) 1 1) (fun _ => 0))).heap.size := by rw [setCells_size]; exact ll4
       have ll6' : b6 < (w0.setCells b6 0 (entL 0 (.slice (some ⟨b1, 0, none⟩) 1 1) (fun _ => 0))).heap.size := by rw [setCells_size]; exact ll6
       have ll7' : b7 < (w0.setCells b6 0 (entL 0 (.slice (some ⟨b1, 0, none⟩) 1 1) (fun _ => 0))).heap.size := by rw [setCells_size]; exact ll7
       clear hS hh6 hh1 hh4 hh7 ll1 ll4 ll6 ll7
       have hh1 := hh1'
       clear hh1'
       have hh4 := hh4'
       clear hh4'
       have hh7 := hh7'
       clear hh7'
       have ll1 := ll1'
       clear ll1'
       have ll4 := ll4'
       clear ll4'
       have ll6 := ll6'
       clear ll6'
       have ll7 := ll7'
       clear ll7'
       have hS := hS2
       clear hS2
       generalize w0.setCells b6 0 (entL 0 (.slice (some ⟨b1, 0, none⟩) 1 1) (fun _ => 0)) = w1 at *
       try clear w0
       obtain ⟨w0, rfl⟩ : ∃ x, x = w1 := ⟨_, rfl⟩
       refine wpAnyH_ready (rs := [9]) (by kernel_rfl) (by simp) ?_
       refine AllReadyH.cons rfl (fun K hK => ?_) AllReadyH.nil
       ·
        rw [if_pos (by rfl)]
        refine wp_store_mid 28 _ _ rfl b7 0 (entL 0 (.slice (some ⟨b4, 0, none⟩) 1 1) (fun _ => 0)).toArray rfl rfl (by rw [List.size_toArray, entL_len]; exact hh7) (by rw [List.size_toArray]; exact size_ent _ _ _) (entL_one _ _ _ _ _) ?_
        rw [show (entL 0 (.slice (some ⟨b4, 0, none⟩) 1 1) (fun _ => 0)).toArray.toList = (entL 0 (.slice (some ⟨b4, 0, none⟩) 1 1) (fun _ => 0)) from rfl]
        have hS2 := hS.store b7 gg7 (entL 0 (.slice (some ⟨b4, 0, none⟩) 1 1) (fun _ => 0))
        refine hK.out _ _ hS2 (fun _ => ?_)
        clear hK K
        try simp only [Act.put, List.setIfInBounds_toArray, List.set_cons_zero, List.set_cons_succ]
        have mm7 := entAt_stored hh7 0 (.slice (some ⟨b4, 0, none⟩) 1 1) (fun _ => 0)
        have hh1' := hh1.block (setCells_other b7 b1 (by omega) (entL 0 (.slice (some ⟨b4, 0, none⟩) 1 1) (fun _ => 0)) 0 w0)
        have hh4' := hh4.block (setCells_other b7 b4 (by omega) (entL 0 (.slice (some ⟨b4, 0, none⟩) 1 1) (fun _ => 0)) 0 w0)
        have mm6' := mm6.block (setCells_other b7 b6 (by omega) (entL 0 (.slice (some ⟨b4, 0, none⟩) 1 1) (fun _ => 0)) 0 w0)
        have ll1' : b1 < (w0.setCells b7 0 (entL 0 (.slice (some ⟨b4, 0, none⟩) 1 1) (fun _ => 0))).heap.size := by rw [setCells_size]; exact ll1
        have ll4' : b4 < (w0.setCells b7 0 (entL 0 (.slice (some ⟨b4, 0, none⟩) 1 1) (fun _ => 0))).heap.size := by rw [setCells_size]; exact ll4
        have ll6' : b6 < (w0.setCells b7 0 (entL 0 (.slice (some ⟨b4, 0, none⟩) 1 1) (fun _ => 0))).heap.size := by rw [setCells_size]; exact ll6
        have ll7' : b7 < (w0.setCells b7 0 (entL 0 (.slice (some ⟨b4, 0, none⟩) 1 1) (fun _ => 0))).heap.size := by rw [setCells_size]; exact ll7
        clear hS hh7 hh1 hh4 mm6 ll1 ll4 ll6 ll7
        have hh1 := hh1'
        clear hh1'
        have hh4 := hh4'
        clear hh4'
        have mm6 := mm6'
        clear mm6'
        have ll1 := ll1'
        clear ll1'
        have ll4 := ll4'
        clear ll4'
        have ll6 := ll6'
        clear ll6'
        have ll7 := ll7'
        clear ll7'
        have hS := hS2
        clear hS2
        generalize w0.setCells b7 0 (entL 0 (.slice (some ⟨b4, 0, none⟩) 1 1) (fun _ => 0)) = w1 at *
        try clear w0
        obtain ⟨w0, rfl⟩ : ∃ x, x = w1 := ⟨_, rfl⟩
        refine wpAnyH_done (by kernel_rfl) ?_ _
        exact hQn _ _ _ _ _ _ b1 b4 b6 b7 w0 hh1 hh4 mm6 mm7 hS
    ·
     go_simp
     refine hK.out _ _ ?_ (fun _ => ?_)
     · exact hS.alloc (Obj.cells (entL 0 (.slice none 0 0) (fun _ => 0)).toArray 28)
     clear hK K
     try simp only [Act.put, List.setIfInBounds_toArray, List.set_cons_zero, List.set_cons_succ]
     have hS2 := hS.alloc (Obj.cells (entL 0 (.slice none 0 0) (fun _ => 0)).toArray 28)
     have gg6 := hS.sz
     have hh6 := there_box w0
     have ll6 : w0.heap.size < (w0.alloc (Obj.cells (entL 0 (.slice none 0 0) (fun _ => 0)).toArray 28)).heap.size := by simp
     have hh4' := hh4.block (Below.heap_alloc w0 (Obj.cells (entL 0 (.slice none 0 0) (fun _ => 0)).toArray 28) b4 ll4)
     have ll4' : b4 < (w0.alloc (Obj.cells (entL 0 (.slice none 0 0) (fun _ => 0)).toArray 28)).heap.size := by simp; omega
     have nn64 : w0.heap.size ≠ b4 := by omega
     have hh7' := there_block hh7 (Below.heap_alloc w0 (Obj.cells (entL 0 (.slice none 0 0) (fun _ => 0)).toArray 28) b7 ll7)
     have ll7' : b7 < (w0.alloc (Obj.cells (entL 0 (.slice none 0 0) (fun _ => 0)).toArray 28)).heap.size := by simp; omega
     have nn67 : w0.heap.size ≠ b7 := by omega
     clear hS hh4 ll4 hh7 ll7
     have hh4 := hh4'
     have ll4 := ll4'
     clear hh4' ll4'
     have hh7 := hh7'
     have ll7 := ll7'
     clear hh7' ll7'
     have hS := hS2
     clear hS2
     generalize w0.alloc (Obj.cells (entL 0 (.slice none 0 0) (fun _ => 0)).toArray 28) = w1 at *
     generalize w0.heap.size = b6 at *
     try clear w0
     obtain ⟨w0, rfl⟩ : ∃ x, x = w1 := ⟨_, rfl⟩
     refine wpAnyH_ready (rs := [1]) (by kernel_rfl) (by simp) ?_
     refine AllReadyH.cons rfl (fun K hK => ?_) AllReadyH.nil
     ·
      go_simp
      refine hK.out _ _ ?_ (fun _ => ?_)
      · exact hS.alloc (Obj.cells #[.int .i64 k1, .int .i64 s1, .int .i64 g1, .int .i64 p1] 43)
      clear hK K
      try simp only [Act.put, List.setIfInBounds_toArray, List.set_cons_zero, List.set_cons_succ]
      have hS2 := hS.alloc (Obj.cells #[.int .i64 k1, .int .i64 s1, .int .i64 g1, .int .i64 p1] 43)
      have gg1 := hS.sz
      have hh1 := evsAt_box k1 s1 g1 p1 w0
      have ll1 : w0.heap.size < (w0.alloc (Obj.cells #[.int .i64 k1, .int .i64 s1, .int .i64 g1, .int .i64 p1] 43)).heap.size := by simp
      have hh4' := hh4.block (Below.heap_alloc w0 (Obj.cells #[.int .i64 k1, .int .i64 s1, .int .i64 g1, .int .i64 p1] 43) b4 ll4)
      have ll4' : b4 < (w0.alloc (Obj.cells #[.int .i64 k1, .int .i64 s1, .int .i64 g1, .int .i64 p1] 43)).heap.size := by simp; omega
      have nn14 : w0.heap.size ≠ b4 := by omega
      have hh7' := there_block hh7 (Below.heap_alloc w0 (Obj.cells #[.int .i64 k1, .int .i64 s1, .int .i64 g1, .int .i64 p1] 43) b7 ll7)
      have ll7' : b7 < (w0.alloc (Obj.cells #[.int .i64 k1, .int .i64 s1, .int .i64 g1, .int .i64 p1] 43)).heap.size := by simp; omega
      have nn17 : w0.heap.size ≠ b7 := by omega
      have hh6' := there_block hh6 (Below.heap_alloc w0 (Obj.cells #[.int .i64 k1, .int .i64 s1, .int .i64 g1, .int .i64 p1] 43) b6 ll6)
      have ll6' : b6 < (w0.alloc (Obj.cells #[.int .i64 k1, .int .i64 s1, .int .i64 g1, .int .i64 p1] 43)).heap.size := by simp; omega
      have nn16 : w0.heap.size ≠ b6 := by omega
      clear hS hh4 ll4 hh7 ll7 hh6 ll6
      have hh4 := hh4'
      have ll4 := ll4'
      clear hh4' ll4'
      have hh7 := hh7'
      have ll7 := ll7'
      clear hh7' ll7'
      have hh6 := hh6'
      have ll6 := ll6'
      clear hh6' ll6'
      have hS := hS2
      clear hS2
      generalize w0.alloc (Obj.cells #[.int .i64 k1, .int .i64 s1, .int .i64 g1, .int .i64 p1] 43) = w1 at *
      generalize w0.heap.size = b1 at *
      try clear w0
      obtain ⟨w0, rfl⟩ : ∃ x, x = w1 := ⟨_, rfl⟩
      refine wpAnyH_take (i := 2) (v := ?_) rfl (by kernel_rfl) (by kernel_rfl) (by kernel_rfl) (hQp 11 _) (Or.inl ⟨by rfl, ?_⟩) hS ?_
      rotate_left 1
      · intro w hw; refine build_run _ _ 10 b1 _ ?_ ?_ <;> rfl
      try simp only [Act.put, List.setIfInBounds_toArray, List.set_cons_zero, List.set_cons_succ]
      refine wpAnyH_ready (rs := [8]) (by kernel_rfl) (by simp) ?_
      refine AllReadyH.cons rfl (fun K hK => ?_) AllReadyH.nil
      ·
       rw [if_pos (by rfl)]
       refine wp_store_mid 28 _ _ rfl b6 0 (entL 0 (.slice (some ⟨b1, 0, none⟩) 1 1) (fun _ => 0)).toArray rfl rfl (by rw [List.size_toArray, entL_len]; exact hh6) (by rw [List.size_toArray]; exact size_ent _ _ _) (entL_one _ _ _ _ _) ?_
       rw [show (entL 0 (.slice (some ⟨b1, 0, none⟩) 1 1) (fun _ => 0)).toArray.toList = (entL 0 (.slice (some ⟨b1, 0, none⟩) 1 1) (fun _ => 0)) from rfl]
       have hS2 := hS.store b6 gg6 (entL 0 (.slice (some ⟨b1, 0, none⟩) 1 1) (fun _ => 0))
       refine hK.out _ _ hS2 (fun _ => ?_)
       clear hK K
       try simp only [Act.put, List.setIfInBounds_toArray, List.set_cons_zero, List.set_cons_succ]
       have mm6 := entAt_stored hh6 0 (.slice (some ⟨b1, 0, none⟩) 1 1) (fun _ => 0)
       have hh1' := hh1.block (setCells_other b6 b1 (by omega) (entL 0 (.slice (some ⟨b1, 0, none⟩) 1 1) (fun _ => 0)) 0 w0)
       have hh4' := hh4.block (setCells_other b6 b4 (by omega) (entL 0 (.slice (some ⟨b1, 0, none⟩) 1 1) (fun _ => 0)) 0 w0)
       have hh7' := there_block hh7 (setCells_other b6 b7 (by omega) (entL 0 (.slice (some ⟨b1, 0, none⟩) 1 1) (fun _ => 0)) 0 w0)
       have ll1' : b1 < (w0.setCells b6 0 (entL 0 (.slice (some ⟨b1, 0, none⟩) 1 1) (fun _ => 0))).heap.size := by rw [setCells_size]; exact ll1
       have ll4' : b4 < (w0.setCells b6 0 (entL 0 (.slice (some ⟨b1, 0, none⟩) 1 1) (fun _ => 0))).heap.size := by rw [setCells_size]; exact ll4
       have ll6' : b6 < (w0.setCells b6 0 (entL 0 (.slice (some ⟨b1, 0, none⟩) 1 1) (fun _ => 0))).heap.size := by rw [setCells_size]; exact ll6
       have ll7' : b7 < (w0.setCells b6 0 (entL 0 (.slice (some ⟨b1, 0, none⟩) 1 1) (fun _ => 0))).heap.size := by rw [setCells_size]; exact ll7
       clear hS hh6 hh1 hh4 hh7 ll1 ll4 ll6 ll7
       have hh1 := hh1'
       clear hh1'
       have hh4 := hh4'
       clear hh4'
       have hh7 := hh7'
       clear hh7'
       have ll1 := ll1'
       clear ll1'
       have ll4 := ll4'
       clear ll4'
       have ll6 := ll6'
       clear ll6'
       have ll7 := ll7'
       clear ll7'
       have hS := hS2
       clear hS2
       generalize w0.setCells b6 0 (entL 0 (.slice (some ⟨b1, 0, none⟩) 1 1) (fun _ => 0)) = w1 at *
       try clear w0
       obtain ⟨w0, rfl⟩ : ∃ x, x = w1 := ⟨_, rfl⟩
       refine wpAnyH_ready (rs := [9]) (by kernel_rfl) (by simp) ?_
       refine AllReadyH.cons rfl (fun K hK => ?_) AllReadyH.nil
       ·
        rw [if_pos (by rfl)]
        refine wp_store_mid 28 _ _ rfl b7 0 (entL 0 (.slice (some ⟨b4, 0, none⟩) 1 1) (fun _ => 0)).toArray rfl rfl (by rw [List.size_toArray, entL_len]; exact hh7) (by rw [List.size_toArray]; exact size_ent _ _ _) (entL_one _ _ _ _ _) ?_
        rw [show (entL 0 (.slice (some ⟨b4, 0, none⟩) 1 1) (fun _ => 0)).toArray.toList = (entL 0 (.slice (some ⟨b4, 0, none⟩) 1 1) (fun _ => 0)) from rfl]
        have hS2 := hS.store b7 gg7 (entL 0 (.slice (some ⟨b4, 0, none⟩) 1 1) (fun _ => 0))
        refine hK.out _ _ hS2 (fun _ => ?_)
        clear hK K
        try simp only [Act.put, List.setIfInBounds_toArray, List.set_cons_zero, List.set_cons_succ]
        have mm7 := entAt_stored hh7 0 (.slice (some ⟨b4, 0, none⟩) 1 1) (fun _ => 0)
        have hh1' := hh1.block (setCells_other b7 b1 (by omega) (entL 0 (.slice (some ⟨b4, 0, none⟩) 1 1) (fun _ => 0)) 0 w0)
        have hh4' := hh4.block (setCells_other b7 b4 (by omega) (entL 0 (.slice (some ⟨b4, 0, none⟩) 1 1) (fun _ => 0)) 0 w0)
        have mm6' := mm6.block (setCells_other b7 b6 (by omega) (entL 0 (.slice (some ⟨b4, 0, none⟩) 1 1) (fun _ => 0)) 0 w0)
        have ll1' : b1 < (w0.setCells b7 0 (entL 0 (.slice (some ⟨b4, 0, none⟩) 1 1) (fun _ => 0))).heap.size := by rw [setCells_size]; exact ll1
        have ll4' : b4 < (w0.setCells b7 0 (entL 0 (.slice (some ⟨b4, 0, none⟩) 1 1) (fun _ => 0))).heap.size := by rw [setCells_size]; exact ll4
        have ll6' : b6 < (w0.setCells b7 0 (entL 0 (.slice (some ⟨b4, 0, none⟩) 1 1) (fun _ => 0))).heap.size := by rw [setCells_size]; exact ll6
        have ll7' : b7 < (w0.setCells b7 0 (entL 0 (.slice (some ⟨b4, 0, none⟩) 1 1) (fun _ => 0))).heap.size := by rw [setCells_size]; exact ll7
        clear hS hh7 hh1 hh4 mm6 ll1 ll4 ll6 ll7
        have hh1 := hh1'
        clear hh1'
        have hh4 := hh4'
        clear hh4'
        have mm6 := mm6'
        clear mm6'
        have ll1 := ll1'
        clear ll1'
        have ll4 := ll4'
        clear ll4'
        have ll6 := ll6'
        clear ll6'
        have ll7 := ll7'
        clear ll7'
        have hS := hS2
        clear hS2
        generalize w0.setCells b7 0 (entL 0 (.slice (some ⟨b4, 0, none⟩) 1 1) (fun _ => 0)) = w1 at *
        try clear w0
        obtain ⟨w0, rfl⟩ : ∃ x, x = w1 := ⟨_, rfl⟩
        refine wpAnyH_done (by kernel_rfl) ?_ _
        exact hQn _ _ _ _ _ _ b1 b4 b6 b7 w0 hh1 hh4 mm6 mm7 hS
  ·
   go_simp
   refine hK.out _ _ ?_ (fun _ => ?_)
   · exact hS.alloc (Obj.cells (entL 0 (.slice none 0 0) (fun _ => 0)).toArray 28)
   clear hK K
   try simp only [Act.put, List.setIfInBounds_toArray, List.set_cons_zero, List.set_cons_succ]
   have hS2 := hS.alloc (Obj.cells (entL 0 (.slice none 0 0) (fun _ => 0)).toArray 28)
   have gg6 := hS.sz
   have hh6 := there_box w0
   have ll6 : w0.heap.size < (w0.alloc (Obj.cells (entL 0 (.slice none 0 0) (fun _ => 0)).toArray 28)).heap.size := by simp
   clear hS
   have hS := hS2
   clear hS2
   generalize w0.alloc (Obj.cells (entL 0 (.slice none 0 0) (fun _ => 0)).toArray 28) = w1 at *
   generalize w0.heap.size = b6 at *
   try clear w0
   obtain ⟨w0, rfl⟩ : ∃ x, x = w1 := ⟨_, rfl⟩
   refine wpAnyH_ready (rs := [1, 4, 7]) (by kernel_rfl) (by simp) ?_
   refine AllReadyH.cons rfl (fun K hK => ?_) (AllReadyH.cons rfl (fun K hK => ?_) (AllReadyH.cons rfl (fun K hK => ?_) AllReadyH.nil))
   ·
    go_simp
    refine hK.out _ _ ?_ (fun _ => ?_)
    · exact hS.alloc (Obj.cells #[.int .i64 k1, .int .i64 s1, .int .i64 g1, .int .i64 p1] 43)
    clear hK K
    try simp only [Act.put, List.setIfInBounds_toArray, List.set_cons_zero, List.set_cons_succ]
    have hS2 := hS.alloc (Obj.cells #[.int .i64 k1, .int .i64 s1, .int .i64 g1, .int .i64 p1] 43)
    have gg1 := hS.sz
    have hh1 := evsAt_box k1 s1 g1 p1 w0
    have ll1 : w0.heap.size < (w0.alloc (Obj.cells #[.int .i64 k1, .int .i64 s1, .int .i64 g1, .int .i64 p1] 43)).heap.size := by simp
    have hh6' := there_block hh6 (Below.heap_alloc w0 (Obj.cells #[.int .i64 k1, .int .i64 s1, .int .i64 g1, .int .i64 p1] 43) b6 ll6)
    have ll6' : b6 < (w0.alloc (Obj.cells #[.int .i64 k1, .int .i64 s1, .int .i64 g1, .int .i64 p1] 43)).heap.size := by simp; omega
    have nn16 : w0.heap.size ≠ b6 := by omega
    clear hS hh6 ll6
    have hh6 := hh6'
    have ll6 := ll6'
    clear hh6' ll6'
    have hS := hS2
    clear hS2
    generalize w0.alloc (Obj.cells #[.int .i64 k1, .int .i64 s1, .int .i64 g1, .int .i64 p1] 43) = w1 at *
    generalize w0.heap.size = b1 at *
    try clear w0
    obtain ⟨w0, rfl⟩ : ∃ x, x = w1 := ⟨_, rfl⟩
    refine wpAnyH_take (i := 2) (v := ?_) rfl (by kernel_rfl) (by kernel_rfl) (by kernel_rfl) (hQp 11 _) (Or.inl ⟨by rfl, ?_⟩) hS ?_
    rotate_left 1
    · intro w hw; refine build_run _ _ 10 b1 _ ?_ ?_ <;> rfl
    try simp only [Act.put, List.setIfInBounds_toArray, List.set_cons_zero, List.set_cons_succ]
    refine wpAnyH_ready (rs := [4, 7]) (by kernel_rfl) (by simp) ?_
    refine AllReadyH.cons rfl (fun K hK => ?_) (AllReadyH.cons rfl (fun K hK => ?_) AllReadyH.nil)
    ·
     go_simp
     refine hK.out _ _ ?_ (fun _ => ?_)
     · exact hS.alloc (Obj.cells #[.int .i64 k2, .int .i64 s2, .int .i64 g2, .int .i64 p2] 43)
     clear hK K
     try simp only [Act.put, List.setIfInBounds_toArray, List.set_cons_zero, List.set_cons_succ]
     have hS2 := hS.alloc (Obj.cells #[.int .i64 k2, .int .i64 s2, .int .i64 g2, .int .i64 p2] 43)
     have gg4 := hS.sz
     have hh4 := evsAt_box k2 s2 g2 p2 w0
     have ll4 : w0.heap.size < (w0.alloc (Obj.cells #[.int .i64 k2, .int .i64 s2, .int .i64 g2, .int .i64 p2] 43)).heap.size := by simp
     have hh6' := there_block hh6 (Below.heap_alloc w0 (Obj.cells #[.int .i64 k2, .int .i64 s2, .int .i64 g2, .int .i64 p2] 43) b6 ll6)
     have ll6' : b6 < (w0.alloc (Obj.cells #[.int .i64 k2, .int .i64 s2, .int .i64 g2, .int .i64 p2] 43)).heap.size := by simp; omega
     have nn46 : w0.heap.size ≠ b6 := by omega
     have hh1' := hh1.block (Below.heap_alloc w0 (Obj.cells #[.int .i64 k2, .int .i64 s2, .int .i64 g2, .int .i64 p2] 43) b1 ll1)
     have ll1' : b1 < (w0.alloc (Obj.cells #[.int .i64 k2, .int .i64 s2, .int .i64 g2, .int .i64 p2] 43)).heap.size := by simp; omega
     have nn41 : w0.heap.size ≠ b1 := by omega
     clear hS hh6 ll6 hh1 ll1
     have hh6 := hh6'
     have ll6 := ll6'
     clear hh6' ll6'
     have hh1 := hh1'
     have ll1 := ll1'
     clear hh1' ll1'
     have hS := hS2
     clear hS2
     generalize w0.alloc (Obj.cells #[.int .i64 k2, .int .i64 s2, .int .i64 g2, .int .i64 p2] 43) = w1 at *
     generalize w0.heap.size = b4 at *
     try clear w0
     obtain ⟨w0, rfl⟩ : ∃ x, x = w1 := ⟨_, rfl⟩
     refine wpAnyH_take (i := 5) (v := ?_) rfl (by kernel_rfl) (by kernel_rfl) (by kernel_rfl) (hQp 14 _) (Or.inl ⟨by rfl, ?_⟩) hS ?_
     rotate_left 1
     · intro w hw; refine build_run _ _ 13 b4 _ ?_ ?_ <;> rfl
     try simp only [Act.put, List.setIfInBounds_toArray, List.set_cons_zero, List.set_cons_succ]
     refine wpAnyH_ready (rs := [7]) (by kernel_rfl) (by simp) ?_
     refine AllReadyH.cons rfl (fun K hK => ?_) AllReadyH.nil
     ·
      go_simp
      refine hK.out _ _ ?_ (fun _ => ?_)
      · exact hS.alloc (Obj.cells (entL 0 (.slice none 0 0) (fun _ => 0)).toArray 28)
      clear hK K
      try simp only [Act.put, List.setIfInBounds_toArray, List.set_cons_zero, List.set_cons_succ]
      have hS2 := hS.alloc (Obj.cells (entL 0 (.slice none 0 0) (fun _ => 0)).toArray 28)
      have gg7 := hS.sz
      have hh7 := there_box w0
      have ll7 : w0.heap.size < (w0.alloc (Obj.cells (entL 0 (.slice none 0 0) (fun _ => 0)).toArray 28)).heap.size := by simp
      have hh6' := there_block hh6 (Below.heap_alloc w0 (Obj.cells (entL 0 (.slice none 0 0) (fun _ => 0)).toArray 28) b6 ll6)
      have ll6' : b6 < (w0.alloc (Obj.cells (entL 0 (.slice none 0 0) (fun _ => 0)).toArray 28)).heap.size := by simp; omega
      have nn76 : w0.heap.size ≠ b6 := by omega
      have hh1' := hh1.block (Below.heap_alloc w0 (Obj.cells (entL 0 (.slice none 0 0) (fun _ => 0)).toArray 28) b1 ll1)
      have ll1' : b1 < (w0.alloc (Obj.cells (entL 0 (.slice none 0 0) (fun _ => 0)).toArray 28)).heap.size := by simp; omega
      have nn71 : w0.heap.size ≠ b1 := by omega
      have hh4' := hh4.block (Below.heap_alloc w0 (Obj.cells (entL 0 (.slice none 0 0) (fun _ => 0)).toArray 28) b4 ll4)
      have ll4' : b4 < (w0.alloc (Obj.cells (entL 0 (.slice none 0 0) (fun _ => 0)).toArray 28)).heap.size := by simp; omega
      have nn74 : w0.heap.size ≠ b4 := by omega
      clear hS hh6 ll6 hh1 ll1 hh4 ll4
      have hh6 := hh6'
      have ll6 := ll6'
      clear hh6' ll6'
      have hh1 := hh1'
      have ll1 := ll1'
      clear hh1' ll1'
      have hh4 := hh4'
      have ll4 := ll4'
      clear hh4' ll4'
      have hS := hS2
      clear hS2
      generalize w0.alloc (Obj.cells (entL 0 (.slice none 0 0) (fun _ => 0)).toArray 28) = w1 at *
      generalize w0.heap.size = b7 at *
      try clear w0
      obtain ⟨w0, rfl⟩ : ∃ x, x = w1 := ⟨_, rfl⟩
      refine wpAnyH_ready (rs := [8]) (by kernel_rfl) (by simp) ?_
      refine AllReadyH.cons rfl (fun K hK => ?_) AllReadyH.nil
      ·
       rw [if_pos (by rfl)]
       refine wp_store_mid 28 _ _ rfl b6 0 (entL 0 (.slice (some ⟨b1, 0, none⟩) 1 1) (fun _ => 0)).toArray rfl rfl (by rw [List.size_toArray, entL_len]; exact hh6) (by rw [List.size_toArray]; exact size_ent _ _ _) (entL_one _ _ _ _ _) ?_
       rw [show (entL 0 (.slice (some ⟨b1, 0, none⟩) 1 1) (fun _ => 0)).toArray.toList = (entL 0 (.slice (some ⟨b1, 0, none⟩) 1 1) (fun _ => 0)) from rfl]
       have hS2 := hS.store b6 gg6 (entL 0 (.slice (some ⟨b1, 0, none⟩) 1 1) (fun _ => 0))
       refine hK.out _ _ hS2 (fun _ => ?_)
       clear hK K
       try simp only [Act.put, List.setIfInBounds_toArray, List.set_cons_zero, List.set_cons_succ]
       have mm6 := entAt_stored hh6 0 (.slice (some ⟨b1, 0, none⟩) 1 1) (fun _ => 0)
       have hh1' := hh1.block (setCells_other b6 b1 (by omega) (entL 0 (.slice (some ⟨b1, 0, none⟩) 1 1) (fun _ => 0)) 0 w0)
       have hh4' := hh4.block (setCells_other b6 b4 (by omega) (entL 0 (.slice (some ⟨b1, 0, none⟩) 1 1) (fun _ => 0)) 0 w0)
       have hh7' := there_block hh7 (setCells_other b6 b7 (by omega) (entL 0 (.slice (some ⟨b1, 0, none⟩) 1 1) (fun _ => 0)) 0 w0)
       have ll1' : b1 < (w0.setCells b6 0 (entL 0 (.slice (some ⟨b1, 0, none⟩) 1 1) (fun _ => 0))).heap.size := by rw [setCells_size]; exact ll1
       have ll4' : b4 < (w0.setCells b6 0 (entL 0 (.slice (some ⟨b1, 0, none⟩) 1 1) (fun _ => 0))).heap.size := by rw [setCells_size]; exact ll4
       have ll6' : b6 < (w0.setCells b6 0 (entL 0 (.slice (some ⟨b1, 0, none⟩) 1 1) (fun _ => 0))).heap.size := by rw [setCells_size]; exact ll6
       have ll7' : b7 < (w0.setCells b6 0 (entL 0 (.slice (some ⟨b1, 0, none⟩) 1 1) (fun _ => 0))).heap.size := by rw [setCells_size]; exact ll7
       clear hS hh6 hh1 hh4 hh7 ll1 ll4 ll6 ll7
       have hh1 := hh1'
       clear hh1'
       have hh4 := hh4'
       clear hh4'
       have hh7 := hh7'
       clear hh7'
       have ll1 := ll1'
       clear ll1'
       have ll4 := ll4'
       clear ll4'
       have ll6 := ll6'
       clear ll6'
       have ll7 := ll7'
       clear ll7'
       have hS := hS2
       clear hS2
       generalize w0.setCells b6 0 (entL 0 (.slice (some ⟨b1, 0, none⟩) 1 1) (fun _ => 0)) = w1 at *
       try clear w0
       obtain ⟨w0, rfl⟩ : ∃ x, x = w1 := ⟨_, rfl⟩
       refine wpAnyH_ready (rs := [9]) (by kernel_rfl) (by simp) ?_
       refine AllReadyH.cons rfl (fun K hK => ?_) AllReadyH.nil
       ·
        rw [if_pos (by rfl)]
        refine wp_store_mid 28 _ _ rfl b7 0 (entL 0 (.slice (some ⟨b4, 0, none⟩) 1 1) (fun _ => 0)).toArray rfl rfl (by rw [List.size_toArray, entL_len]; exact hh7) (by rw [List.size_toArray]; exact size_ent _ _ _) (entL_one _ _ _ _ _) ?_
        rw [show (entL 0 (.slice (some ⟨b4, 0, none⟩) 1 1) (fun _ => 0)).toArray.toList = (entL 0 (.slice (some ⟨b4, 0, none⟩) 1 1) (fun _ => 0)) from rfl]
        have hS2 := hS.store b7 gg7 (entL 0 (.slice (some ⟨b4, 0, none⟩) 1 1) (fun _ => 0))
        refine hK.out _ _ hS2 (fun _ => ?_)
        clear hK K
        try simp only [Act.put, List.setIfInBounds_toArray, List.set_cons_zero, List.set_cons_succ]
        have mm7 := entAt_stored hh7 0 (.slice (some ⟨b4, 0, none⟩) 1 1) (fun _ => 0)
        have hh1' := hh1.block (setCells_other b7 b1 (by omega) (entL 0 (.slice (some ⟨b4, 0, none⟩) 1 1) (fun _ => 0)) 0 w0)
        have hh4' := hh4.block (setCells_other b7 b4 (by omega) (entL 0 (.slice (some ⟨b4, 0, none⟩) 1 1) (fun _ => 0)) 0 w0)
        have mm6' := mm6.block (setCells_other b7 b6 (by omega) (entL 0 (.slice (some ⟨b4, 0, none⟩) 1 1) (fun _ => 0)) 0 w0)
        have ll1' : b1 < (w0.setCells b7 0 (entL 0 (.slice (some ⟨b4, 0, none⟩) 1 1) (fun _ => 0))).heap.size := by rw [setCells_size]; exact ll1
        have ll4' : b4 < (w0.setCells b7 0 (entL 0 (.slice (some ⟨b4, 0, none⟩) 1 1) (fun _ => 0))).heap.size := by rw [setCells_size]; exact ll4
        have ll6' : b6 < (w0.setCells b7 0 (entL 0 (.slice (some ⟨b4, 0, none⟩) 1 1) (fun _ => 0))).heap.size := by rw [setCells_size]; exact ll6
        have ll7' : b7 < (w0.setCells b7 0 (entL 0 (.slice (some ⟨b4, 0, none⟩) 1 1) (fun _ => 0))).heap.size := by rw [setCells_size]; exact ll7
        clear hS hh7 hh1 hh4 mm6 ll1 ll4 ll6 ll7
        have hh1 := hh1'
        clear hh1'
        have hh4 := hh4'
        clear hh4'
        have mm6 := mm6'
        clear mm6'
        have ll1 := ll1'
        clear ll1'
        have ll4 := ll4'
        clear ll4'
        have ll6 := ll6'
        clear ll6'
        have ll7 := ll7'
        clear ll7'
        have hS := hS2
        clear hS2
        generalize w0.setCells b7 0 (entL 0 (.slice (some ⟨b4, 0, none⟩) 1 1) (fun _ => 0)) = w1 at *
        try clear w0
        obtain ⟨w0, rfl⟩ : ∃ x, x = w1 := ⟨_, rfl⟩
        refine wpAnyH_done (by kernel_rfl) ?_ _
        exact hQn _ _ _ _ _ _ b1 b4 b6 b7 w0 hh1 hh4 mm6 mm7 hS
    ·
     go_simp
     refine hK.out _ _ ?_ (fun _ => ?_)
     · exact hS.alloc (Obj.cells (entL 0 (.slice none 0 0) (fun _ => 0)).toArray 28)
     clear hK K
     try simp only [Act.put, List.setIfInBounds_toArray, List.set_cons_zero, List.set_cons_succ]
     have hS2 := hS.alloc (Obj.cells (entL 0 (.slice none 0 0) (fun _ => 0)).toArray 28)
     have gg7 := hS.sz
     have hh7 := there_box w0
     have ll7 : w0.heap.size < (w0.alloc (Obj.cells (entL 0 (.slice none 0 0) (fun _ => 0)).toArray 28)).heap.size := by simp
     have hh6' := there_block hh6 (Below.heap_alloc w0 (Obj.cells (entL 0 (.slice none 0 0) (fun _ => 0)).toArray 28) b6 ll6)
     have ll6' : b6 < (w0.alloc (Obj.cells (entL 0 (.slice none 0 0) (fun _ => 0)).toArray 28)).heap.size := by simp; omega
     have nn76 : w0.heap.size ≠ b6 := by omega
     have hh1' := hh1.block (Below.heap_alloc w0 (Obj.cells (entL 0 (.slice none 0 0) (fun _ => 0)).toArray 28) b1 ll1)
     have ll1' : b1 < (w0.alloc (Obj.cells (entL 0 (.slice none 0 0) (fun _ => 0)).toArray 28)).heap.size := by simp; omega
     have nn71 : w0.heap.size ≠ b1 := by omega
     clear hS hh6 ll6 hh1 ll1
     have hh6 := hh6'
     have ll6 := ll6'
     clear hh6' ll6'
     have hh1 := hh1'
     have ll1 := ll1'
     clear hh1' ll1'
     have hS := hS2
     clear hS2
     generalize w0.alloc (Obj.cells (entL 0 (.slice none 0 0) (fun _ => 0)).toArray 28) = w1 at *
     generalize w0.heap.size = b7 at *
     try clear w0
     obtain ⟨w0, rfl⟩ : ∃ x, x = w1 := ⟨_, rfl⟩
     refine wpAnyH_ready (rs := [4, 8]) (by kernel_rfl) (by simp) ?_
     refine AllReadyH.cons rfl (fun K hK => ?_) (AllReadyH.cons rfl (fun K hK => ?_) AllReadyH.nil)
     ·
      go_simp
      refine hK.out _ _ ?_ (fun _ => ?_)
      · exact hS.alloc (Obj.cells #[.int .i64 k2, .int .i64 s2, .int .i64 g2, .int .i64 p2] 43)
      clear hK K
      try simp only [Act.put, List.setIfInBounds_toArray, List.set_cons_zero, List.set_cons_succ]
      have hS2 := hS.alloc (Obj.cells #[.int .i64 k2, .int .i64 s2, .int .i64 g2, .int .i64 p2] 43)
      have gg4 := hS.sz
      have hh4 := evsAt_box k2 s2 g2 p2 w0
      have ll4 : w0.heap.size < (w0.alloc (Obj.cells #[.int .i64 k2, .int .i64 s2, .int .i64 g2, .int .i64 p2] 43)).heap.size := by simp
      have hh6' := there_block hh6 (Below.heap_alloc w0 (Obj.cells #[.int .i64 k2, .int .i64 s2, .int .i64 g2, .int .i64 p2] 43) b6 ll6)
      have ll6' : b6 < (w0.alloc (Obj.cells #[.int .i64 k2, .int .i64 s2, .int .i64 g2, .int .i64 p2] 43)).heap.size := by simp; omega
      have nn46 : w0.heap.size ≠ b6 := by omega
      have hh1' := hh1.block (Below.heap_alloc w0 (Obj.cells #[.int .i64 k2, .int .i64 s2, .int .i64 g2, .int .i64 p2] 43) b1 ll1)
      have ll1' : b1 < (w0.alloc (Obj.cells #[.int .i64 k2, .int .i64 s2, .int .i64 g2, .int .i64 p2] 43)).heap.size := by simp; omega
      have nn41 : w0.heap.size ≠ b1 := by omega
      have hh7' := there_block hh7 (Below.heap_alloc w0 (Obj.cells #[.int .i64 k2, .int .i64 s2, .int .i64 g2, .int .i64 p2] 43) b7 ll7)
      have ll7' : b7 < (w0.alloc (Obj.cells #[.int .i64 k2, .int .i64 s2, .int .i64 g2, .int .i64 p2] 43)).heap.size := by simp; omega
      have nn47 : w0.heap.size ≠ b7 := by omega
      clear hS hh6 ll6 hh1 ll1 hh7 ll7
      have hh6 := hh6'
      have ll6 := ll6'
      clear hh6' ll6'
      have hh1 := hh1'
      have ll1 := ll1'
      clear hh1' ll1'
      have hh7 := hh7'
      have ll7 := ll7'
      clear hh7' ll7'
      have hS := hS2
      clear hS2
      generalize w0.alloc (Obj.cells #[.int .i64 k2, .int .i64 s2, .int .i64 g2, .int .i64 p2] 43) = w1 at *
      generalize w0.heap.size = b4 at *
      try clear w0
      obtain ⟨w0, rfl⟩ : ∃ x, x = w1 := ⟨_, rfl⟩
      refine wpAnyH_take (i := 5) (v := ?_) rfl (by kernel_rfl) (by kernel_rfl) (by kernel_rfl) (hQp 14 _) (Or.inl ⟨by rfl, ?_⟩) hS ?_
      rotate_left 1
      · intro w hw; refine build_run _ _ 13 b4 _ ?_ ?_ <;> rfl
      try simp only [Act.put, List.setIfInBounds_toArray, List.set_cons_zero, List.set_cons_succ]
      refine wpAnyH_ready (rs := [8]) (by kernel_rfl) (by simp) ?_
      refine AllReadyH.cons rfl (fun K hK => ?_) AllReadyH.nil
      ·
       rw [if_pos (by rfl)]
       refine wp_store_mid 28 _ _ rfl b6 0 (entL 0 (.slice (some ⟨b1, 0, none⟩) 1 1) (fun _ => 0)).toArray rfl rfl (by rw [List.size_toArray, entL_len]; exact hh6) (by rw [List.size_toArray]; exact size_ent _ _ _) (entL_one _ _ _ _ _) ?_
       rw [show (entL 0 (.slice (some ⟨b1, 0, none⟩) 1 1) (fun _ => 0)).toArray.toList = (entL 0 (.slice (some ⟨b1, 0, none⟩) 1 1) (fun _ => 0)) from rfl]
       have hS2 := hS.store b6 gg6 (entL 0 (.slice (some ⟨b1, 0, none⟩) 1 1) (fun _ => 0))
       refine hK.out _ _ hS2 (fun _ => ?_)
       clear hK K
       try simp only [Act.put, List.setIfInBounds_toArray, List.set_cons_zero, List.set_cons_succ]
       have mm6 := entAt_stored hh6 0 (.slice (some ⟨b1, 0, none⟩) 1 1) (fun _ => 0)
       have hh1' := hh1.block (setCells_other b6 b1 (by omega) (entL 0 (.slice (some ⟨b1, 0, none⟩) 1 1) (fun _ => 0)) 0 w0)
       have hh4' := hh4.block (setCells_other b6 b4 (by omega) (entL 0 (.slice (some ⟨b1, 0, none⟩) 1 1) (fun _ => 0)) 0 w0)
       have hh7' := there_block hh7 (setCells_other b6 b7 (by omega) (entL 0 (.slice (some ⟨b1, 0, none⟩) 1 1) (fun _ => 0)) 0 w0)
       have ll1' : b1 < (w0.setCells b6 0 (entL 0 (.slice (some ⟨b1, 0, none⟩) 1 1) (fun _ => 0))).heap.size := by rw [setCells_size]; exact ll1
       have ll4' : b4 < (w0.setCells b6 0 (entL 0 (.slice (some ⟨b1, 0, none⟩) 1 1) (fun _ => 0))).heap.size := by rw [setCells_size]; exact ll4
       have ll6' : b6 < (w0.setCells b6 0 (entL 0 (.slice (some ⟨b1, 0, none⟩) 1 1) (fun _ => 0))).heap.size := by rw [setCells_size]; exact ll6
       have ll7' : b7 < (w0.setCells b6 0 (entL 0 (.slice (some ⟨b1, 0, none⟩) 1 1) (fun _ => 0))).heap.size := by rw [setCells_size]; exact ll7
       clear hS hh6 hh1 hh4 hh7 ll1 ll4 ll6 ll7
       have hh1 := hh1'
       clear hh1'
       have hh4 := hh4'
       clear hh4'
       have hh7 := hh7'
       clear hh7'
       have ll1 := ll1'
       clear ll1'
       have ll4 := ll4'
       clear ll4'
       have ll6 := ll6'
       clear ll6'
       have ll7 := ll7'
       clear ll7'
       have hS := hS2
       clear hS2
       generalize w0.setCells b6 0 (entL 0 (.slice (some ⟨b1, 0, none⟩) 1 1) (fun _ => 0)) = w1 at *
       try clear w0
       obtain ⟨w0, rfl⟩ : ∃ x, x = w1 := ⟨_, rfl⟩
       refine wpAnyH_ready (rs := [9]) (by kernel_rfl) (by simp) ?_
       refine AllReadyH.cons rfl (fun K hK => ?_) AllReadyH.nil
       ·
        rw [if_pos (by rfl)]
        refine wp_store_mid 28 _ _ rfl b7 0 (entL 0 (.slice (some ⟨b4, 0, none⟩) 1 1) (fun _ => 0)).toArray rfl rfl (by rw [List.size_toArray, entL_len]; exact hh7) (by rw [List.size_toArray]; exact size_ent _ _ _) (entL_one _ _ _ _ _) ?_
        rw [show (entL 0 (.slice (some ⟨b4, 0, none⟩) 1 1) (fun _ => 0)).toArray.toList = (entL 0 (.slice (some ⟨b4, 0, none⟩) 1 1) (fun _ => 0)) from rfl]
        have hS2 := hS.store b7 gg7 (entL 0 (.slice (some ⟨b4, 0, none⟩) 1 1) (fun _ => 0))
        refine hK.out _ _ hS2 (fun _ => ?_)
        clear hK K
        try simp only [Act.put, List.setIfInBounds_toArray, List.set_cons_zero, List.set_cons_succ]
        have mm7 := entAt_stored hh7 0 (.slice (some ⟨b4, 0, none⟩) 1 1) (fun _ => 0)
        have hh1' := hh1.block (setCells_other b7 b1 (by omega) (entL 0 (.slice (some ⟨b4, 0, none⟩) 1 1) (fun _ => 0)) 0 w0)
        have hh4' := hh4.block (setCells_other b7 b4 (by omega) (entL 0 (.slice (some ⟨b4, 0, none⟩) 1 1) (fun _ => 0)) 0 w0)
        have mm6' := mm6.block (setCells_other b7 b6 (by omega) (entL 0 (.slice (some ⟨b4, 0, none⟩) 1 1) (fun _ => 0)) 0 w0)
        have ll1' : b1 < (w0.setCells b7 0 (entL 0 (.slice (some ⟨b4, 0, none⟩) 1 1) (fun _ => 0))).heap.size := by rw [setCells_size]; exact ll1
        have ll4' : b4 < (w0.setCells b7 0 (entL 0 (.slice (some ⟨b4, 0, none⟩) 1 1) (fun _ => 0))).heap.size := by rw [setCells_size]; exact ll4
        have ll6' : b6 < (w0.setCells b7 0 (entL 0 (.slice (some ⟨b4, 0, none⟩) 1 1) (fun _ => 0))).heap.size := by rw [setCells_size]; exact ll6
        have ll7' : b7 < (w0.setCells b7 0 (entL 0 (.slice (some ⟨b4, 0, none⟩) 1 1) (fun _ => 0))).heap.size := by rw [setCells_size]; exact ll7
        clear hS hh7 hh1 hh4 mm6 ll1 ll4 ll6 ll7
        have hh1 := hh1'
        clear hh1'
        have hh4 := hh4'
        clear hh4'
        have mm6 := mm6'
        clear mm6'
        have ll1 := ll1'
        clear ll1'
        have ll4 := ll4'
        clear ll4'
        have ll6 := ll6'
        clear ll6'
        have ll7 := ll7'
        clear ll7'
        have hS := hS2
        clear hS2
        generalize w0.setCells b7 0 (entL 0 (.slice (some ⟨b4, 0, none⟩) 1 1) (fun _ => 0)) = w1 at *
        try clear w0
        obtain ⟨w0, rfl⟩ : ∃ x, x = w1 := ⟨_, rfl⟩
        refine wpAnyH_done (by kernel_rfl) ?_ _
        exact hQn _ _ _ _ _ _ b1 b4 b6 b7 w0 hh1 hh4 mm6 mm7 hS
     ·
      rw [if_pos (by rfl)]
      refine wp_store_mid 28 _ _ rfl b6 0 (entL 0 (.slice (some ⟨b1, 0, none⟩) 1 1) (fun _ => 0)).toArray rfl rfl (by rw [List.size_toArray, entL_len]; exact hh6) (by rw [List.size_toArray]; exact size_ent _ _ _) (entL_one _ _ _ _ _) ?_
      rw [show (entL 0 (.slice (some ⟨b1, 0, none⟩) 1 1) (fun _ => 0)).toArray.toList = (entL 0 (.slice (some ⟨b1, 0, none⟩) 1 1) (fun _ => 0)) from rfl]
      have hS2 := hS.store b6 gg6 (entL 0 (.slice (some ⟨b1, 0, none⟩) 1 1) (fun _ => 0))
      refine hK.out _ _ hS2 (fun _ => ?_)
      clear hK K
      try simp only [Act.put, List.setIfInBounds_toArray, List.set_cons_zero, List.set_cons_succ]
      have mm6 := entAt_stored hh6 0 (.slice (some ⟨b1, 0, none⟩) 1 1) (fun _ => 0)
      have hh1' := hh1.block (setCells_other b6 b1 (by omega) (entL 0 (.slice (some ⟨b1, 0, none⟩) 1 1) (fun _ => 0)) 0 w0)
      have hh7' := there_block hh7 (setCells_other b6 b7 (by omega) (entL 0 (.slice (some ⟨b1, 0, none⟩) 1 1) (fun _ => 0)) 0 w0)
      have ll1' : b1 < (w0.setCells b6 0 (entL 0 (.slice (some ⟨b1, 0, none⟩) 1 1) (fun _ => 0))).heap.size := by rw [setCells_size]; exact ll1
      have ll6' : b6 < (w0.setCells b6 0 (entL 0 (.slice (some ⟨b1, 0, none⟩) 1 1) (fun _ => 0))).heap.size := by rw [setCells_size]; exact ll6
      have ll7' : b7 < (w0.setCells b6 0 (entL 0 (.slice (some ⟨b1, 0, none⟩) 1 1) (fun _ => 0))).heap.size := by rw [setCells_size]; exact ll7
      clear hS hh6 hh1 hh7 ll1 ll6 ll7
      have hh1 := hh1'
      clear hh1'
      have hh7 := hh7'
      clear hh7'
      have ll1 := ll1'
      clear ll1'
      have ll6 := ll6'
      clear ll6'
      have ll7 := ll7'
      clear ll7'
      have hS := hS2
      clear hS2
      generalize w0.setCells b6 0 (entL 0 (.slice (some ⟨b1, 0, none⟩) 1 1) (fun _ => 0)) = w1 at *
      try clear w0
      obtain ⟨w0, rfl⟩ : ∃ x, x = w1 := ⟨_, rfl⟩
      refine wpAnyH_ready (rs := [4]) (by kernel_rfl) (by simp) ?_
      refine AllReadyH.cons rfl (fun K hK => ?_) AllReadyH.nil
      ·
       go_simp
       refine hK.out _ _ ?_ (fun _ => ?_)
       · exact hS.alloc (Obj.cells #[.int .i64 k2, .int .i64 s2, .int .i64 g2, .int .i64 p2] 43)
       clear hK K
       try simp only [Act.put, List.setIfInBounds_toArray, List.set_cons_zero, List.set_cons_succ]
       have hS2 := hS.alloc (Obj.cells #[.int .i64 k2, .int .i64 s2, .int .i64 g2, .int .i64 p2] 43)
       have gg4 := hS.sz
       have hh4 := evsAt_box k2 s2 g2 p2 w0
       have ll4 : w0.heap.size < (w0.alloc (Obj.cells #[.int .i64 k2, .int .i64 s2, .int .i64 g2, .int .i64 p2] 43)).heap.size := by simp
       have mm6' := mm6.block (Below.heap_alloc w0 (Obj.cells #[.int .i64 k2, .int .i64 s2, .int .i64 g2, .int .i64 p2] 43) b6 ll6)
       have ll6' : b6 < (w0.alloc (Obj.cells #[.int .i64 k2, .int .i64 s2, .int .i64 g2, .int .i64 p2] 43)).heap.size := by simp; omega
       have nn46 : w0.heap.size ≠ b6 := by omega
       have hh1' := hh1.block (Below.heap_alloc w0 (Obj.cells #[.int .i64 k2, .int .i64 s2, .int .i64 g2, .int .i64 p2] 43) b1 ll1)
       have ll1' : b1 < (w0.alloc (Obj.cells #[.int .i64 k2, .int .i64 s2, .int .i64 g2, .int .i64 p2] 43)).heap.size := by simp; omega
       have nn41 : w0.heap.size ≠ b1 := by omega
       have hh7' := there_block hh7 (Below.heap_alloc w0 (Obj.cells #[.int .i64 k2, .int .i64 s2, .int .i64 g2, .int .i64 p2] 43) b7 ll7)
       have ll7' : b7 < (w0.alloc (Obj.cells #[.int .i64 k2, .int .i64 s2, .int .i64 g2, .int .i64 p2] 43)).heap.size := by simp; omega
       have nn47 : w0.heap.size ≠ b7 := by omega
       clear hS mm6 ll6 hh1 ll1 hh7 ll7
       have mm6 := mm6'
       have ll6 := ll6'
       clear mm6' ll6'
       have hh1 := hh1'
       have ll1 := ll1'
       clear hh1' ll1'
       have hh7 := hh7'
       have ll7 := ll7'
       clear hh7' ll7'
       have hS := hS2
       clear hS2
       generalize w0.alloc (Obj.cells #[.int .i64 k2, .int .i64 s2, .int .i64 g2, .int .i64 p2] 43) = w1 at *
       generalize w0.heap.size = b4 at *
       try clear w0
       obtain ⟨w0, rfl⟩ : ∃ x, x = w1 := ⟨_, rfl⟩
       refine wpAnyH_take (i := 5) (v := ?_) rfl (by kernel_rfl) (by kernel_rfl) (by kernel_rfl) (hQp 14 _) (Or.inl ⟨by rfl, ?_⟩) hS ?_
       rotate_left 1
       · intro w hw; refine build_run _ _ 13 b4 _ ?_ ?_ <;> rfl
       try simp only [Act.put, List.setIfInBounds_toArray, List.set_cons_zero, List.set_cons_succ]
       refine wpAnyH_ready (rs := [9]) (by kernel_rfl) (by simp) ?_
       refine AllReadyH.cons rfl (fun K hK => ?_) AllReadyH.nil
       ·
        rw [if_pos (by rfl)]
        refine wp_store_mid 28 _ _ rfl b7 0 (entL 0 (.slice (some ⟨b4, 0, none⟩) 1 1) (fun _ => 0)).toArray rfl rfl (by rw [List.size_toArray, entL_len]; exact hh7) (by rw [List.size_toArray]; exact size_ent _ _ _) (entL_one _ _ _ _ _) ?_
        rw [show (entL 0 (.slice (some ⟨b4, 0, none⟩) 1 1) (fun _ => 0)).toArray.toList = (entL 0 (.slice (some ⟨b4, 0, none⟩) 1 1) (fun _ => 0)) from rfl]
        have hS2 := hS.store b7 gg7 (entL 0 (.slice (some ⟨b4, 0, none⟩) 1 1) (fun _ => 0))
        refine hK.out _ _ hS2 (fun _ => ?_)
        clear hK K
        try simp only [Act.put, List.setIfInBounds_toArray, List.set_cons_zero, List.set_cons_succ]
        have mm7 := entAt_stored hh7 0 (.slice (some ⟨b4, 0, none⟩) 1 1) (fun _ => 0)
        have hh1' := hh1.block (setCells_other b7 b1 (by omega) (entL 0 (.slice (some ⟨b4, 0, none⟩) 1 1) (fun _ => 0)) 0 w0)
        have hh4' := hh4.block (setCells_other b7 b4 (by omega) (entL 0 (.slice (some ⟨b4, 0, none⟩) 1 1) (fun _ => 0)) 0 w0)
        have mm6' := mm6.block (setCells_other b7 b6 (by omega) (entL 0 (.slice (some ⟨b4, 0, none⟩) 1 1) (fun _ => 0)) 0 w0)
        have ll1' : b1 < (w0.setCells b7 0 (entL 0 (.slice (some ⟨b4, 0, none⟩) 1 1) (fun _ => 0))).heap.size := by rw [setCells_size]; exact ll1
        have ll4' : b4 < (w0.setCells b7 0 (entL 0 (.slice (some ⟨b4, 0, none⟩) 1 1) (fun _ => 0))).heap.size := by rw [setCells_size]; exact ll4
        have ll6' : b6 < (w0.setCells b7 0 (entL 0 (.slice (some ⟨b4, 0, none⟩) 1 1) (fun _ => 0))).heap.size := by rw [setCells_size]; exact ll6
        have ll7' : b7 < (w0.setCells b7 0 (entL 0 (.slice (some ⟨b4, 0, none⟩) 1 1) (fun _ => 0))).heap.size := by rw [setCells_size]; exact ll7
        clear hS hh7 hh1 hh4 mm6 ll1 ll4 ll6 ll7
        have hh1 := hh1'
        clear hh1'
        have hh4 := hh4'
        clear hh4'
        have mm6 := mm6'
        clear mm6'
        have ll1 := ll1'
        clear ll1'
        have ll4 := ll4'
        clear ll4'
        have ll6 := ll6'
        clear ll6'
        have ll7 := ll7'
        clear ll7'
        have hS := hS2
        clear hS2
        generalize w0.setCells b7 0 (entL 0 (.slice (some ⟨b4, 0, none⟩) 1 1) (fun _ => 0)) = w1 at *
        try clear w0
        obtain ⟨w0, rfl⟩ : ∃ x, x = w1 := ⟨_, rfl⟩
        refine wpAnyH_done (by kernel_rfl) ?_ _
        exact hQn _ _ _ _ _ _ b1 b4 b6 b7 w0 hh1 hh4 mm6 mm7 hS
   ·
    go_simp
    refine hK.out _ _ ?_ (fun _ => ?_)
    · exact hS.alloc (Obj.cells #[.int .i64 k2, .int .i64 s2, .int .i64 g2, .int .i64 p2] 43)
    clear hK K
    try simp only [Act.put, List.setIfInBounds_toArray, List.set_cons_zero, List.set_cons_succ]
    have hS2 := hS.alloc (Obj.cells #[.int .i64 k2, .int .i64 s2, .int .i64 g2, .int .i64 p2] 43)
    have gg4 := hS.sz
    have hh4 := evsAt_box k2 s2 g2 p2 w0
    have ll4 : w0.heap.size < (w0.alloc (Obj.cells #[.int .i64 k2, .int .i64 s2, .int .i64 g2, .int .i64 p2] 43)).heap.size := by simp
    have hh6' := there_block hh6 (Below.heap_alloc w0 (Obj.cells #[.int .i64 k2, .int .i64 s2, .int .i64 g2, .int .i64 p2] 43) b6 ll6)
    have ll6' : b6 < (w0.alloc (Obj.cells #[.int .i64 k2, .int .i64 s2, .int .i64 g2, .int .i64 p2] 43)).heap.size := by simp; omega
    have nn46 : w0.heap.size ≠ b6 := by omega
    clear hS hh6 ll6
    have hh6 := hh6'
    have ll6 := ll6'
    clear hh6' ll6'
    have hS := hS2
    clear hS2
    generalize w0.alloc (Obj.cells #[.int .i64 k2, .int .i64 s2, .int .i64 g2, .int .i64 p2] 43) = w1 at *
    generalize w0.heap.size = b4 at *
    try clear w0
    obtain ⟨w0, rfl⟩ : ∃ x, x = w1 := ⟨_, rfl⟩
    refine wpAnyH_take (i := 5) (v := ?_) rfl (by kernel_rfl) (by kernel_rfl) (by kernel_rfl) (hQp 14 _) (Or.inl ⟨by rfl, ?_⟩) hS ?_
    rotate_left 1
    · intro w hw; refine build_run _ _ 13 b4 _ ?_ ?_ <;> rfl
    try simp only [Act.put, List.setIfInBounds_toArray, List.set_cons_zero, List.set_cons_succ]
    refine wpAnyH_ready (rs := [1, 7]) (by kernel_rfl) (by simp) ?_
    refine AllReadyH.cons rfl (fun K hK => ?_) (AllReadyH.cons rfl (fun K hK => ?_) AllReadyH.nil)
    ·
     go_simp
     refine hK.out _ _ ?_ (fun _ => ?_)
     · exact hS.alloc (Obj.cells #[.int .i64 k1, .int .i64 s1, .int .i64 g1, .int .i64 p1] 43)
     clear hK K
     try simp only [Act.put, List.setIfInBounds_toArray, List.set_cons_zero, List.set_cons_succ]
     have hS2 := hS.alloc (Obj.cells #[.int .i64 k1, .int .i64 s1, .int .i64 g1, .int .i64 p1] 43)
     have gg1 := hS.sz
     have hh1 := evsAt_box k1 s1 g1 p1 w0
     have ll1 : w0.heap.size < (w0.alloc (Obj.cells #[.int .i64 k1, .int .i64 s1, .int .i64 g1, .int .i64 p1] 43)).heap.size := by simp
     have hh6' := there_block hh6 (Below.heap_alloc w0 (Obj.cells #[.int .i64 k1, .int .i64 s1, .int .i64 g1, .int .i64 p1] 43) b6 ll6)
     have ll6' : b6 < (w0.alloc (Obj.cells #[.int .i64 k1, .int .i64 s1, .int .i64 g1, .int .i64 p1] 43)).heap.size := by simp; omega
     have nn16 : w0.heap.size ≠ b6 := by omega
     have hh4' := hh4.block (Below.heap_alloc w0 (Obj.cells #[.int .i64 k1, .int .i64 s1, .int .i64 g1, .int .i64 p1] 43) b4 ll4)
     have ll4' : b4 < (w0.alloc (Obj.cells #[.int .i64 k1, .int .i64 s1, .int .i64 g1, .int .i64 p1] 43)).heap.size := by simp; omega
     have nn14 : w0.heap.size ≠ b4 := by omega
     clear hS hh6 ll6 hh4 ll4
     have hh6 := hh6'
     have ll6 := ll6'
     clear hh6' ll6'
     have hh4 := hh4'
     have ll4 := ll4'
     clear hh4' ll4'
     have hS := hS2
     clear hS2
     generalize w0.alloc (Obj.cells #[.int .i64 k1, .int .i64 s1, .int .i64 g1, .int .i64 p1] 43) = w1 at *
     generalize w0.heap.size = b1 at *
     try clear w0
     obtain ⟨w0, rfl⟩ : ∃ x, x = w1 := ⟨_, rfl⟩
     refine wpAnyH_take (i := 2) (v := ?_) rfl (by kernel_rfl) (by kernel_rfl) (by kernel_rfl) (hQp 11 _) (Or.inl ⟨by rfl, ?_⟩) hS ?_
     rotate_left 1
     · intro w hw; refine build_run _ _ 10 b1 _ ?_ ?_ <;> rfl
     try simp only [Act.put, List.setIfInBounds_toArray, List.set_cons_zero, List.set_cons_succ]
     refine wpAnyH_ready (rs := [7]) (by kernel_rfl) (by simp) ?_
     refine AllReadyH.cons rfl (fun K hK => ?_) AllReadyH.nil
     ·
      go_simp
      refine hK.out _ _ ?_ (fun _ => ?_)
      · exact hS.alloc (Obj.cells (entL 0 (.slice none 0 0) (fun _ => 0)).toArray 28)
      clear hK K
      try simp only [Act.put, List.setIfInBounds_toArray, List.set_cons_zero, List.set_cons_succ]
      have hS2 := hS.alloc (Obj.cells (entL 0 (.slice none 0 0) (fun _ => 0)).toArray 28)
      have gg7 := hS.sz
      have hh7 := there_box w0
      have ll7 : w0.heap.size < (w0.alloc (Obj.cells (entL 0 (.slice none 0 0) (fun _ => 0)).toArray 28)).heap.size := by simp
      have hh6' := there_block hh6 (Below.heap_alloc w0 (Obj.cells (entL 0 (.slice none 0 0) (fun _ => 0)).toArray 28) b6 ll6)
      have ll6' : b6 < (w0.alloc (Obj.cells (entL 0 (.slice none 0 0) (fun _ => 0)).toArray 28)).heap.size := by simp; omega
      have nn76 : w0.heap.size ≠ b6 := by omega
      have hh4' := hh4.block (Below.heap_alloc w0 (Obj.cells (entL 0 (.slice none 0 0) (fun _ => 0)).toArray 28) b4 ll4)
      have ll4' : b4 < (w0.alloc (Obj.cells (entL 0 (.slice none 0 0) (fun _ => 0)).toArray 28)).heap.size := by simp; omega
      have nn74 : w0.heap.size ≠ b4 := by omega
      have hh1' := hh1.block (Below.heap_alloc w0 (Obj.cells (entL 0 (.slice none 0 0) (fun _ => 0)).toArray 28) b1 ll1)
      have ll1' : b1 < (w0.alloc (Obj.cells (entL 0 (.slice none 0 0) (fun _ => 0)).toArray 28)).heap.size := by simp; omega
      have nn71 : w0.heap.size ≠ b1 := by omega
      clear hS hh6 ll6 hh4 ll4 hh1 ll1
      have hh6 := hh6'
      have ll6 := ll6'
      clear hh6' ll6'
      have hh4 := hh4'
      have ll4 := ll4'
      clear hh4' ll4'
      have hh1 := hh1'
      have ll1 := ll1'
      clear hh1' ll1'
      have hS := hS2
      clear hS2
      generalize w0.alloc (Obj.cells (entL 0 (.slice none 0 0) (fun _ => 0)).toArray 28) = w1 at *
      generalize w0.heap.size = b7 at *
      try clear w0
      obtain ⟨w0, rfl⟩ : ∃ x, x = w1 := ⟨_, rfl⟩
      refine wpAnyH_ready (rs := [8]) (by kernel_rfl) (by simp) ?_
      refine AllReadyH.cons rfl (fun K hK => ?_) AllReadyH.nil
      ·
       rw [if_pos (by rfl)]
       refine wp_store_mid 28 _ _ rfl b6 0 (entL 0 (.slice (some ⟨b1, 0, none⟩) 1 1) (fun _ => 0)).toArray rfl rfl (by rw [List.size_toArray, entL_len]; exact hh6) (by rw [List.size_toArray]; exact size_ent _ _ _) (entL_one _ _ _ _ _) ?_
       rw [show (entL 0 (.slice (some ⟨b1, 0, none⟩) 1 1) (fun _ => 0)).toArray.toList = (entL 0 (.slice (some ⟨b1, 0, none⟩) 1 1) (fun _ => 0)) from rfl]
       have hS2 := hS.store b6 gg6 (entL 0 (.slice (some ⟨b1, 0, none⟩) 1 1) (fun _ => 0))
       refine hK.out _ _ hS2 (fun _ => ?_)
       clear hK K
       try simp only [Act.put, List.setIfInBounds_toArray, List.set_cons_zero, List.set_cons_succ]
       have mm6 := entAt_stored hh6 0 (.slice (some ⟨b1, 0, none⟩) 1 1) (fun _ => 0)
       have hh1' := hh1.block (setCells_other b6 b1 (by omega) (entL 0 (.slice (some ⟨b1, 0, none⟩) 1 1) (fun _ => 0)) 0 w0)
       have hh4' := hh4.block (setCells_other b6 b4 (by omega) (entL 0 (.slice (some ⟨b1, 0, none⟩) 1 1) (fun _ => 0)) 0 w0)
       have hh7' := there_block hh7 (setCells_other b6 b7 (by omega) (entL 0 (.slice (some ⟨b1, 0, none⟩) 1 1) (fun _ => 0)) 0 w0)
       have ll1' : b1 < (w0.setCells b6 0 (entL 0 (.slice (some ⟨b1, 0, none⟩) 1 1) (fun _ => 0))).heap.size := by rw [setCells_size]; exact ll1
       have ll4' : b4 < (w0.setCells b6 0 (entL 0 (.slice (some ⟨b1, 0, none⟩) 1 1) (fun _ => 0))).heap.size := by rw [setCells_size]; exact ll4
       have ll6' : b6 < (w0.setCells b6 0 (entL 0 (.slice (some ⟨b1, 0, none⟩) 1 1) (fun _ => 0))).heap.size := by rw [setCells_size]; exact ll6
       have ll7' : b7 < (w0.setCells b6 0 (entL 0 (.slice (some ⟨b1, 0, none⟩) 1 1) (fun _ => 0))).heap.size := by rw [setCells_size]; exact ll7
       clear hS hh6 hh1 hh4 hh7 ll1 ll4 ll6 ll7
       have hh1 := hh1'
       clear hh1'
       have hh4 := hh4'
       clear hh4'
       have hh7 := hh7'
       clear hh7'
       have ll1 := ll1'
       clear ll1'
       have ll4 := ll4'
       clear ll4'
       have ll6 := ll6'
       clear ll6'
       have ll7 := ll7'
       clear ll7'
       have hS := hS2
       clear hS2
       generalize w0.setCells b6 0 (entL 0 (.slice (some ⟨b1, 0, none⟩) 1 1) (fun _ => 0)) = w1 at *
       try clear w0
       obtain ⟨w0, rfl⟩ : ∃ x, x = w1 := ⟨_, rfl⟩
       refine wpAnyH_ready (rs := [9]) (by kernel_rfl) (by simp) ?_
       refine AllReadyH.cons rfl (fun K hK => ?_) AllReadyH.nil
       ·
        rw [if_pos (by rfl)]
        refine wp_store_mid 28 _ _ rfl b7 0 (entL 0 (.slice (some ⟨b4, 0, none⟩) 1 1) (fun _ => 0)).toArray rfl rfl (by rw [List.size_toArray, entL_len]; exact hh7) (by rw [List.size_toArray]; exact size_ent _ _ _) (entL_one _ _ _ _ _) ?_
        rw [show (entL 0 (.slice (some ⟨b4, 0, none⟩) 1 1) (fun _ => 0)).toArray.toList = (entL 0 (.slice (some ⟨b4, 0, none⟩) 1 1) (fun _ => 0)) from rfl]
        have hS2 := hS.store b7 gg7 (entL 0 (.slice (some ⟨b4, 0, none⟩) 1 1) (fun _ => 0))
        refine hK.out _ _ hS2 (fun _ => ?_)
        clear hK K
        try simp only [Act.put, List.setIfInBounds_toArray, List.set_cons_zero, List.set_cons_succ]
        have mm7 := entAt_stored hh7 0 (.slice (some ⟨b4, 0, none⟩) 1 1) (fun _ => 0)
        have hh1' := hh1.block (setCells_other b7 b1 (by omega) (entL 0 (.slice (some ⟨b4, 0, none⟩) 1 1) (fun _ => 0)) 0 w0)
        have hh4' := hh4.block (setCells_other b7 b4 (by omega) (entL 0 (.slice (some ⟨b4, 0, none⟩) 1 1) (fun _ => 0)) 0 w0)
        have mm6' := mm6.block (setCells_other b7 b6 (by omega) (entL 0 (.slice (some ⟨b4, 0, none⟩) 1 1) (fun _ => 0)) 0 w0)
        have ll1' : b1 < (w0.setCells b7 0 (entL 0 (.slice (some ⟨b4, 0, none⟩) 1 1) (fun _ => 0))).heap.size := by rw [setCells_size]; exact ll1
        have ll4' : b4 < (w0.setCells b7 0 (entL 0 (.slice (some ⟨b4, 0, none⟩) 1 1) (fun _ => 0))).heap.size := by rw [setCells_size]; exact ll4
        have ll6' : b6 < (w0.setCells b7 0 (entL 0 (.slice (some ⟨b4, 0, none⟩) 1 1) (fun _ => 0))).heap.size := by rw [setCells_size]; exact ll6
        have ll7' : b7 < (w0.setCells b7 0 (entL 0 (.slice (some ⟨b4, 0, none⟩) 1 1) (fun _ => 0))).heap.size := by rw [setCells_size]; exact ll7
        clear hS hh7 hh1 hh4 mm6 ll1 ll4 ll6 ll7
        have hh1 := hh1'
        clear hh1'
        have hh4 := hh4'
        clear hh4'
        have mm6 := mm6'
        clear mm6'
        have ll1 := ll1'
        clear ll1'
        have ll4 := ll4'
        clear ll4'
        have ll6 := ll6'
        clear ll6'
        have ll7 := ll7'
        clear ll7'
        have hS := hS2
        clear hS2
        generalize w0.setCells b7 0 (entL 0 (.slice (some ⟨b4, 0, none⟩) 1 1) (fun _ => 0)) = w1 at *
        try clear w0
        obtain ⟨w0, rfl⟩ : ∃ x, x = w1 := ⟨_, rfl⟩
        refine wpAnyH_done (by kernel_rfl) ?_ _
        exact hQn _ _ _ _ _ _ b1 b4 b6 b7 w0 hh1 hh4 mm6 mm7 hS
    ·
     go_simp
     refine hK.out _ _ ?_ (fun _ => ?_)
     · exact hS.alloc (Obj.cells (entL 0 (.slice none 0 0) (fun _ => 0)).toArray 28)
     clear hK K
     try simp only [Act.put, List.setIfInBounds_toArray, List.set_cons_zero, List.set_cons_succ]
     have hS2 := hS.alloc (Obj.cells (entL 0 (.slice none 0 0) (fun _ => 0)).toArray 28)
     have gg7 := hS.sz
     have hh7 := there_box w0
     have ll7 : w0.heap.size < (w0.alloc (Obj.cells (entL 0 (.slice none 0 0) (fun _ => 0)).toArray 28)).heap.size := by simp
     have hh6' := there_block hh6 (Below.heap_alloc w0 (Obj.cells (entL 0 (.slice none 0 0) (fun _ => 0)).toArray 28) b6 ll6)
     have ll6' : b6 < (w0.alloc (Obj.cells (entL 0 (.slice none 0 0) (fun _ => 0)).toArray 28)).heap.size := by simp; omega
     have nn76 : w0.heap.size ≠ b6 := by omega
     have hh4' := hh4.block (Below.heap_alloc w0 (Obj.cells (entL 0 (.slice none 0 0) (fun _ => 0)).toArray 28) b4 ll4)
     have ll4' : b4 < (w0.alloc (Obj.cells (entL 0 (.slice none 0 0) (fun _ => 0)).toArray 28)).heap.size := by simp; omega
     have nn74 : w0.heap.size ≠ b4 := by omega
     clear hS hh6 ll6 hh4 ll4
     have hh6 := hh6'
     have ll6 := ll6'
     clear hh6' ll6'
     have hh4 := hh4'
     have ll4 := ll4'
     clear hh4' ll4'
     have hS := hS2
     clear hS2
     generalize w0.alloc (Obj.cells (entL 0 (.slice none 0 0) (fun _ => 0)).toArray 28) = w1 at *
     generalize w0.heap.size = b7 at *
     try clear w0
     obtain ⟨w0, rfl⟩ : ∃ x, x = w1 := ⟨_, rfl⟩
     refine wpAnyH_ready (rs := [1]) (by kernel_rfl) (by simp) ?_
     refine AllReadyH.cons rfl (fun K hK => ?_) AllReadyH.nil
     ·
      go_simp
      refine hK.out _ _ ?_ (fun _ => ?_)
      · exact hS.alloc (Obj.cells #[.int .i64 k1, .int .i64 s1, .int .i64 g1, .int .i64 p1] 43)
      clear hK K
      try simp only [Act.put, List.setIfInBounds_toArray, List.set_cons_zero, List.set_cons_succ]
      have hS2 := hS.alloc (Obj.cells #[.int .i64 k1, .int .i64 s1, .int .i64 g1, .int .i64 p1] 43)
      have gg1 := hS.sz
      have hh1 := evsAt_box k1 s1 g1 p1 w0
      have ll1 : w0.heap.size < (w0.alloc (Obj.cells #[.int .i64 k1, .int .i64 s1, .int .i64 g1, .int .i64 p1] 43)).heap.size := by simp
      have hh6' := there_block hh6 (Below.heap_alloc w0 (Obj.cells #[.int .i64 k1, .int .i64 s1, .int .i64 g1, .int .i64 p1] 43) b6 ll6)
      have ll6' : b6 < (w0.alloc (Obj.cells #[.int .i64 k1, .int .i64 s1, .int .i64 g1, .int .i64 p1] 43)).heap.size := by simp; omega
      have nn16 : w0.heap.size ≠ b6 := by omega
      have hh4' := hh4.block (Below.heap_alloc w0 (Obj.cells #[.int .i64 k1, .int .i64 s1, .int .i64 g1, .int .i64 p1] 43) b4 ll4)
      have ll4' : b4 < (w0.alloc (Obj.cells #[.int .i64 k1, .int .i64 s1, .int .i64 g1, .int .i64 p1] 43)).heap.size := by simp; omega
      have nn14 : w0.heap.size ≠ b4 := by omega
      have hh7' := there_block hh7 (Below.heap_alloc w0 (Obj.cells #[.int .i64 k1, .int .i64 s1, .int .i64 g1, .int .i64 p1] 43) b7 ll7)
      have ll7' : b7 < (w0.alloc (Obj.cells #[.int .i64 k1, .int .i64 s1, .int .i64 g1, .int .i64 p1] 43)).heap.size := by simp; omega
      have nn17 : w0.heap.size ≠ b7 := by omega
      clear hS hh6 ll6 hh4 ll4 hh7 ll7
      have hh6 := hh6'
      have ll6 := ll6'
      clear hh6' ll6'
      have hh4 := hh4'
      have ll4 := ll4'
      clear hh4' ll4'
      have hh7 := hh7'
      have ll7 := ll7'
      clear hh7' ll7'
      have hS := hS2
      clear hS2
      generalize w0.alloc (Obj.cells #[.int .i64 k1, .int .i64 s1, .int .i64 g1, .int .i64 p1] 43) = w1 at *
      generalize w0.heap.size = b1 at *
      try clear w0
      obtain ⟨w0, rfl⟩ : ∃ x, x = w1 := ⟨_, rfl⟩
      refine wpAnyH_take (i := 2) (v := ?_) rfl (by kernel_rfl) (by kernel_rfl) (by kernel_rfl) (hQp 11 _) (Or.inl ⟨by rfl, ?_⟩) hS ?_
      rotate_left 1
      · intro w hw; refine build_run _ _ 10 b1 _ ?_ ?_ <;> rfl
      try simp only [Act.put, List.setIfInBounds_toArray, List.set_cons_zero, List.set_cons_succ]
      refine wpAnyH_ready (rs := [8]) (by kernel_rfl) (by simp) ?_
      refine AllReadyH.cons rfl (fun K hK => ?_) AllReadyH.nil
      ·
       rw [if_pos (by rfl)]
       refine wp_store_mid 28 _ _ rfl b6 0 (entL 0 (.slice (some ⟨b1, 0, none⟩) 1 1) (fun _ => 0)).toArray rfl rfl (by rw [List.size_toArray, entL_len]; exact hh6) (by rw [List.size_toArray]; exact size_ent _ _ _) (entL_one _ _ _ _ _) ?_
       rw [show (entL 0 (.slice (some ⟨b1, 0, none⟩) 1 1) (fun _ => 0)).toArray.toList = (entL 0 (.slice (some ⟨b1, 0, none⟩) 1 1) (fun _ => 0)) from rfl]
       have hS2 := hS.store b6 gg6 (entL 0 (.slice (some ⟨b1, 0, none⟩) 1 1) (fun _ => 0))
       refine hK.out _ _ hS2 (fun _ => ?_)
       clear hK K
       try simp only [Act.put, List.setIfInBounds_toArray, List.set_cons_zero, List.set_cons_succ]
       have mm6 := entAt_stored hh6 0 (.slice (some ⟨b1, 0, none⟩) 1 1) (fun _ => 0)
       have hh1' := hh1.block (setCells_other b6 b1 (by omega) (entL 0 (.slice (some ⟨b1, 0, none⟩) 1 1) (fun _ => 0)) 0 w0)
       have hh4' := hh4.block (setCells_other b6 b4 (by omega) (entL 0 (.slice (some ⟨b1, 0, none⟩) 1 1) (fun _ => 0)) 0 w0)
       have hh7' := there_block hh7 (setCells_other b6 b7 (by omega) (entL 0 (.slice (some ⟨b1, 0, none⟩) 1 1) (fun _ => 0)) 0 w0)
       have ll1' : b1 < (w0.setCells b6 0 (entL 0 (.slice (some ⟨b1, 0, none⟩) 1 1) (fun _ => 0))).heap.size := by rw [setCells_size]; exact ll1
       have ll4' : b4 < (w0.setCells b6 0 (entL 0 (.slice (some ⟨b1, 0, none⟩) 1 1) (fun _ => 0))).heap.size := by rw [setCells_size]; exact ll4
       have ll6' : b6 < (w0.setCells b6 0 (entL 0 (.slice (some ⟨b1, 0, none⟩) 1 1) (fun _ => 0))).heap.size := by rw [setCells_size]; exact ll6
       have ll7' : b7 < (w0.setCells b6 0 (entL 0 (.slice (some ⟨b1, 0, none⟩) 1 1) (fun _ => 0))).heap.size := by rw [setCells_size]; exact ll7
       clear hS hh6 hh1 hh4 hh7 ll1 ll4 ll6 ll7
       have hh1 := hh1'
       clear hh1'
       have hh4 := hh4'
       clear hh4'
       have hh7 := hh7'
       clear hh7'
       have ll1 := ll1'
       clear ll1'
       have ll4 := ll4'
       clear ll4'
       have ll6 := ll6'
       clear ll6'
       have ll7 := ll7'
       clear ll7'
       have hS := hS2
       clear hS2
       generalize w0.setCells b6 0 (entL 0 (.slice (some ⟨b1, 0, none⟩) 1 1) (fun _ => 0)) = w1 at *
       try clear w0
       obtain ⟨w0, rfl⟩ : ∃ x, x = w1 := ⟨_, rfl⟩
       refine wpAnyH_ready (rs := [9]) (by kernel_rfl) (by simp) ?_
       refine AllReadyH.cons rfl (fun K hK => ?_) AllReadyH.nil
       ·
        rw [if_pos (by rfl)]
        refine wp_store_mid 28 _ _ rfl b7 0 (entL 0 (.slice (some ⟨b4, 0, none⟩) 1 1) (fun _ => 0)).toArray rfl rfl (by rw [List.size_toArray, entL_len]; exact hh7) (by rw [List.size_toArray]; exact size_ent _ _ _) (entL_one _ _ _ _ _) ?_
        rw [show (entL 0 (.slice (some ⟨b4, 0, none⟩) 1 1) (fun _ => 0)).toArray.toList = (entL 0 (.slice (some ⟨b4, 0, none⟩) 1 1) (fun _ => 0)) from rfl]
        have hS2 := hS.store b7 gg7 (entL 0 (.slice (some ⟨b4, 0, none⟩) 1 1) (fun _ => 0))
        refine hK.out _ _ hS2 (fun _ => ?_)
        clear hK K
        try simp only [Act.put, List.setIfInBounds_toArray, List.set_cons_zero, List.set_cons_succ]
        have mm7 := entAt_stored hh7 0 (.slice (some ⟨b4, 0, none⟩) 1 1) (fun _ => 0)
        have hh1' := hh1.block (setCells_other b7 b1 (by omega) (entL 0 (.slice (some ⟨b4, 0, none⟩) 1 1) (fun _ => 0)) 0 w0)
        have hh4' := hh4.block (setCells_other b7 b4 (by omega) (entL 0 (.slice (some ⟨b4, 0, none⟩) 1 1) (fun _ => 0)) 0 w0)
        have mm6' := mm6.block (setCells_other b7 b6 (by omega) (entL 0 (.slice (some ⟨b4, 0, none⟩) 1 1) (fun _ => 0)) 0 w0)
        have ll1' : b1 < (w0.setCells b7 0 (entL 0 (.slice (some ⟨b4, 0, none⟩) 1 1) (fun _ => 0))).heap.size := by rw [setCells_size]; exact ll1
        have ll4' : b4 < (w0.setCells b7 0 (entL 0 (.slice (some ⟨b4, 0, none⟩) 1 1) (fun _ => 0))).heap.size := by rw [setCells_size]; exact ll4
        have ll6' : b6 < (w0.setCells b7 0 (entL 0 (.slice (some ⟨b4, 0, none⟩) 1 1) (fun _ => 0))).heap.size := by rw [setCells_size]; exact ll6
        have ll7' : b7 < (w0.setCells b7 0 (entL 0 (.slice (some ⟨b4, 0, none⟩) 1 1) (fun _ => 0))).heap.size := by rw [setCells_size]; exact ll7
        clear hS hh7 hh1 hh4 mm6 ll1 ll4 ll6 ll7
        have hh1 := hh1'
        clear hh1'
        have hh4 := hh4'
        clear hh4'
        have mm6 := mm6'
        clear mm6'
        have ll1 := ll1'
        clear ll1'
        have ll4 := ll4'
        clear ll4'
        have ll6 := ll6'
        clear ll6'
        have ll7 := ll7'
        clear ll7'
        have hS := hS2
        clear hS2
        generalize w0.setCells b7 0 (entL 0 (.slice (some ⟨b4, 0, none⟩) 1 1) (fun _ => 0)) = w1 at *
        try clear w0
        obtain ⟨w0, rfl⟩ : ∃ x, x = w1 := ⟨_, rfl⟩
        refine wpAnyH_done (by kernel_rfl) ?_ _
        exact hQn _ _ _ _ _ _ b1 b4 b6 b7 w0 hh1 hh4 mm6 mm7 hS
   ·
    go_simp
    refine hK.out _ _ ?_ (fun _ => ?_)
    · exact hS.alloc (Obj.cells (entL 0 (.slice none 0 0) (fun _ => 0)).toArray 28)
    clear hK K
    try simp only [Act.put, List.setIfInBounds_toArray, List.set_cons_zero, List.set_cons_succ]
    have hS2 := hS.alloc (Obj.cells (entL 0 (.slice none 0 0) (fun _ => 0)).toArray 28)
    have gg7 := hS.sz
    have hh7 := there_box w0
    have ll7 : w0.heap.size < (w0.alloc (Obj.cells (entL 0 (.slice none 0 0) (fun _ => 0)).toArray 28)).heap.size := by simp
    have hh6' := there_block hh6 (Below.heap_alloc w0 (Obj.cells (entL 0 (.slice none 0 0) (fun _ => 0)).toArray 28) b6 ll6)
    have ll6' : b6 < (w0.alloc (Obj.cells (entL 0 (.slice none 0 0) (fun _ => 0)).toArray 28)).heap.size := by simp; omega
    have nn76 : w0.heap.size ≠ b6 := by omega
    clear hS hh6 ll6
    have hh6 := hh6'
    have ll6 := ll6'
    clear hh6' ll6'
    have hS := hS2
    clear hS2
    generalize w0.alloc (Obj.cells (entL 0 (.slice none 0 0) (fun _ => 0)).toArray 28) = w1 at *
    generalize w0.heap.size = b7 at *
    try clear w0
    obtain ⟨w0, rfl⟩ : ∃ x, x = w1 := ⟨_, rfl⟩
    refine wpAnyH_ready (rs := [1, 4]) (by kernel_rfl) (by simp) ?_
    refine AllReadyH.cons rfl (fun K hK => ?_) (AllReadyH.cons rfl (fun K hK => ?_) AllReadyH.nil)
    ·
     go_simp
     refine hK.out _ _ ?_ (fun _ => ?_)
     · exact hS.alloc (Obj.cells #[.int .i64 k1, .int .i64 s1, .int .i64 g1, .int .i64 p1] 43)
     clear hK K
     try simp only [Act.put, List.setIfInBounds_toArray, List.set_cons_zero, List.set_cons_succ]
     have hS2 := hS.alloc (Obj.cells #[.int .i64 k1, .int .i64 s1, .int .i64 g1, .int .i64 p1] 43)
     have gg1 := hS.sz
     have hh1 := evsAt_box k1 s1 g1 p1 w0
     have ll1 : w0.heap.size < (w0.alloc (Obj.cells #[.int .i64 k1, .int .i64 s1, .int .i64 g1, .int .i64 p1] 43)).heap.size := by simp
     have hh6' := there_block hh6 (Below.heap_alloc w0 (Obj.cells #[.int .i64 k1, .int .i64 s1, .int .i64 g1, .int .i64 p1] 43) b6 ll6)
     have ll6' : b6 < (w0.alloc (Obj.cells #[.int .i64 k1, .int .i64 s1, .int .i64 g1, .int .i64 p1] 43)).heap.size := by simp; omega
     have nn16 : w0.heap.size ≠ b6 := by omega
     have hh7' := there_block hh7 (Below.heap_alloc w0 (Obj.cells #[.int .i64 k1, .int .i64 s1, .int .i64 g1, .int .i64 p1] 43) b7 ll7)
     have ll7' : b7 < (w0.alloc (Obj.cells #[.int .i64 k1, .int .i64 s1, .int .i64 g1, .int .i64 p1] 43)).heap.size := by simp; omega
     have nn17 : w0.heap.size ≠ b7 := by omega
     clear hS hh6 ll6 hh7 ll7
     have hh6 := hh6'
     have ll6 := ll6'
     clear hh6' ll6'
     have hh7 := hh7'
     have ll7 := ll7'
     clear hh7' ll7'
     have hS := hS2
     clear hS2
     generalize w0.alloc (Obj.cells #[.int .i64 k1, .int .i64 s1, .int .i64 g1, .int .i64 p1] 43) = w1 at *
     generalize w0.heap.size = b1 at *
     try clear w0
     obtain ⟨w0, rfl⟩ : ∃ x, x = w1 := ⟨_, rfl⟩
     refine wpAnyH_take (i := 2) (v := ?_) rfl (by kernel_rfl) (by kernel_rfl) (by kernel_rfl) (hQp 11 _) (Or.inl ⟨by rfl, ?_⟩) hS ?_
     rotate_left 1
     · intro w hw; refine build_run _ _ 10 b1 _ ?_ ?_ <;> rfl
     try simp only [Act.put, List.setIfInBounds_toArray, List.set_cons_zero, List.set_cons_succ]
     refine wpAnyH_ready (rs := [4, 8]) (by kernel_rfl) (by simp) ?_
     refine AllReadyH.cons rfl (fun K hK => ?_) (AllReadyH.cons rfl (fun K hK => ?_) AllReadyH.nil)
     ·
      go_simp
      refine hK.out _ _ ?_ (fun _ => ?_)
      · exact hS.alloc (Obj.cells #[.int .i64 k2, .int .i64 s2, .int .i64 g2, .int .i64 p2] 43)
      clear hK K
      try simp only [Act.put, List.setIfInBounds_toArray, List.set_cons_zero, List.set_cons_succ]
      have hS2 := hS.alloc (Obj.cells #[.int .i64 k2, .int .i64 s2, .int .i64 g2, .int .i64 p2] 43)
      have gg4 := hS.sz
      have hh4 := evsAt_box k2 s2 g2 p2 w0
      have ll4 : w0.heap.size < (w0.alloc (Obj.cells #[.int .i64 k2, .int .i64 s2, .int .i64 g2, .int .i64 p2] 43)).heap.size := by simp
      have hh6' := there_block hh6 (Below.heap_alloc w0 (Obj.cells #[.int .i64 k2, .int .i64 s2, .int .i64 g2, .int .i64 p2] 43) b6 ll6)
      have ll6' : b6 < (w0.alloc (Obj.cells #[.int .i64 k2, .int .i64 s2, .int .i64 g2, .int .i64 p2] 43)).heap.size := by simp; omega
      have nn46 : w0.heap.size ≠ b6 := by omega
      have hh7' := there_block hh7 (Below.heap_alloc w0 (Obj.cells #[.int .i64 k2, .int .i64 s2, .int .i64 g2, .int .i64 p2] 43) b7 ll7)
      have ll7' : b7 < (w0.alloc (Obj.cells #[.int .i64 k2, .int .i64 s2, .int .i64 g2, .int .i64 p2] 43)).heap.size := by simp; omega
      have nn47 : w0.heap.size ≠ b7 := by omega
      have hh1' := hh1.block (Below.heap_alloc w0 (Obj.cells #[.int .i64 k2, .int .i64 s2, .int .i64 g2, .int .i64 p2] 43) b1 ll1)
      have ll1' : b1 < (w0.alloc (Obj.cells #[.int .i64 k2, .int .i64 s2, .int .i64 g2, .int .i64 p2] 43)).heap.size := by simp; omega
      have nn41 : w0.heap.size ≠ b1 := by omega
      clear hS hh6 ll6 hh7 ll7 hh1 ll1
      have hh6 := hh6'
      have ll6 := ll6'
      clear hh6' ll6'
      have hh7 := hh7'
      have ll7 := ll7'
      clear hh7' ll7'
      have hh1 := hh1'
      have ll1 := ll1'
      clear hh1' ll1'
      have hS := hS2
      clear hS2
      generalize w0.alloc (Obj.cells #[.int .i64 k2, .int .i64 s2, .int .i64 g2, .int .i64 p2] 43) = w1 at *
      generalize w0.heap.size = b4 at *
      try clear w0
      obtain ⟨w0, rfl⟩ : ∃ x, x = w1 := ⟨_, rfl⟩
      refine wpAnyH_take (i := 5) (v := ?_) rfl (by kernel_rfl) (by kernel_rfl) (by kernel_rfl) (hQp 14 _) (Or.inl ⟨by rfl, ?_⟩) hS ?_
      rotate_left 1
      · intro w hw; refine build_run _ _ 13 b4 _ ?_ ?_ <;> rfl
      try simp only [Act.put, List.setIfInBounds_toArray, List.set_cons_zero, List.set_cons_succ]
      refine wpAnyH_ready (rs := [8]) (by kernel_rfl) (by simp) ?_
      refine AllReadyH.cons rfl (fun K hK => ?_) AllReadyH.nil
      ·
       rw [if_pos (by rfl)]
       refine wp_store_mid 28 _ _ rfl b6 0 (entL 0 (.slice (some ⟨b1, 0, none⟩) 1 1) (fun _ => 0)).toArray rfl rfl (by rw [List.size_toArray, entL_len]; exact hh6) (by rw [List.size_toArray]; exact size_ent _ _ _) (entL_one _ _ _ _ _) ?_
       rw [show (entL 0 (.slice (some ⟨b1, 0, none⟩) 1 1) (fun _ => 0)).toArray.toList = (entL 0 (.slice (some ⟨b1, 0, none⟩) 1 1) (fun _ => 0)) from rfl]
       have hS2 := hS.store b6 gg6 (entL 0 (.slice (some ⟨b1, 0, none⟩) 1 1) (fun _ => 0))
       refine hK.out _ _ hS2 (fun _ => ?_)
       clear hK K
       try simp only [Act.put, List.setIfInBounds_toArray, List.set_cons_zero, List.set_cons_succ]
       have mm6 := entAt_stored hh6 0 (.slice (some ⟨b1, 0, none⟩) 1 1) (fun _ => 0)
       have hh1' := hh1.block (setCells_other b6 b1 (by omega) (entL 0 (.slice (some ⟨b1, 0, none⟩) 1 1) (fun _ => 0)) 0 w0)
       have hh4' := hh4.block (setCells_other b6 b4 (by omega) (entL 0 (.slice (some ⟨b1, 0, none⟩) 1 1) (fun _ => 0)) 0 w0)
       have hh7' := there_block hh7 (setCells_other b6 b7 (by omega) (entL 0 (.slice (some ⟨b1, 0, none⟩) 1 1) (fun _ => 0)) 0 w0)
       have ll1' : b1 < (w0.setCells b6 0 (entL 0 (.slice (some ⟨b1, 0, none⟩) 1 1) (fun _ => 0))).heap.size := by rw [setCells_size]; exact ll1
       have ll4' : b4 < (w0.setCells b6 0 (entL 0 (.slice (some ⟨b1, 0, none⟩) 1 1) (fun _ => 0))).heap.size := by rw [setCells_size]; exact ll4
       have ll6' : b6 < (w0.setCells b6 0 (entL 0 (.slice (some ⟨b1, 0, none⟩) 1 1) (fun _ => 0))).heap.size := by rw [setCells_size]; exact ll6
       have ll7' : b7 < (w0.setCells b6 0 (entL 0 (.slice (some ⟨b1, 0, none⟩) 1 1) (fun _ => 0))).heap.size := by rw [setCells_size]; exact ll7
       clear hS hh6 hh1 hh4 hh7 ll1 ll4 ll6 ll7
       have hh1 := hh1'
       clear hh1'
       have hh4 := hh4'
       clear hh4'
       have hh7 := hh7'
       clear hh7'
       have ll1 := ll1'
       clear ll1'
       have ll4 := ll4'
       clear ll4'
       have ll6 := ll6'
       clear ll6'
       have ll7 := ll7'
       clear ll7'
       have hS := hS2
       clear hS2
       generalize w0.setCells b6 0 (entL 0 (.slice (some ⟨b1, 0, none⟩) 1 1) (fun _ => 0)) = w1 at *
       try clear w0
       obtain ⟨w0, rfl⟩ : ∃ x, x = w1 := ⟨_, rfl⟩
       refine wpAnyH_ready (rs := [9]) (by kernel_rfl) (by simp) ?_
       refine AllReadyH.cons rfl (fun K hK => ?_) AllReadyH.nil
       ·
        rw [if_pos (by rfl)]
        refine wp_store_mid 28 _ _ rfl b7 0 (entL 0 (.slice (some ⟨b4, 0, none⟩) 1 1) (fun _ => 0)).toArray rfl rfl (by rw [List.size_toArray, entL_len]; exact hh7) (by rw [List.size_toArray]; exact size_ent _ _ _) (entL_one _ _ _ _ _) ?_
        rw [show (entL 0 (.slice (some ⟨b4, 0, none⟩) 1 1) (fun _ => 0)).toArray.toList = (entL 0 (.slice (some ⟨b4, 0, none⟩) 1 1) (fun _ => 0)) from rfl]
        have hS2 := hS.store b7 gg7 (entL 0 (.slice (some ⟨b4, 0, none⟩) 1 1) (fun _ => 0))
        refine hK.out _ _ hS2 (fun _ => ?_)
        clear hK K
        try simp only [Act.put, List.setIfInBounds_toArray, List.set_cons_zero, List.set_cons_succ]
        have mm7 := entAt_stored hh7 0 (.slice (some ⟨b4, 0, none⟩) 1 1) (fun _ => 0)
        have hh1' := hh1.block (setCells_other b7 b1 (by omega) (entL 0 (.slice (some ⟨b4, 0, none⟩) 1 1) (fun _ => 0)) 0 w0)
        have hh4' := hh4.block (setCells_other b7 b4 (by omega) (entL 0 (.slice (some ⟨b4, 0, none⟩) 1 1) (fun _ => 0)) 0 w0)
        have mm6' := mm6.block (setCells_other b7 b6 (by omega) (entL 0 (.slice (some ⟨b4, 0, none⟩) 1 1) (fun _ => 0)) 0 w0)
        have ll1' : b1 < (w0.setCells b7 0 (entL 0 (.slice (some ⟨b4, 0, none⟩) 1 1) (fun _ => 0))).heap.size := by rw [setCells_size]; exact ll1
        have ll4' : b4 < (w0.setCells b7 0 (entL 0 (.slice (some ⟨b4, 0, none⟩) 1 1) (fun _ => 0))).heap.size := by rw [setCells_size]; exact ll4
        have ll6' : b6 < (w0.setCells b7 0 (entL 0 (.slice (some ⟨b4, 0, none⟩) 1 1) (fun _ => 0))).heap.size := by rw [setCells_size]; exact ll6
        have ll7' : b7 < (w0.setCells b7 0 (entL 0 (.slice (some ⟨b4, 0, none⟩) 1 1) (fun _ => 0))).heap.size := by rw [setCells_size]; exact ll7
        clear hS hh7 hh1 hh4 mm6 ll1 ll4 ll6 ll7
        have hh1 := hh1'
        clear hh1'
        have hh4 := hh4'
        clear hh4'
        have mm6 := mm6'
        clear mm6'
        have ll1 := ll1'
        clear ll1'
        have ll4 := ll4'
        clear ll4'
        have ll6 := ll6'
        clear ll6'
        have ll7 := ll7'
        clear ll7'
        have hS := hS2
        clear hS2
        generalize w0.setCells b7 0 (entL 0 (.slice (some ⟨b4, 0, none⟩) 1 1) (fun _ => 0)) = w1 at *
        try clear w0
        obtain ⟨w0, rfl⟩ : ∃ x, x = w1 := ⟨_, rfl⟩
        refine wpAnyH_done (by kernel_rfl) ?_ _
        exact hQn _ _ _ _ _ _ b1 b4 b6 b7 w0 hh1 hh4 mm6 mm7 hS
     ·
      rw [if_pos (by rfl)]
      refine wp_store_mid 28 _ _ rfl b6 0 (entL 0 (.slice (some ⟨b1, 0, none⟩) 1 1) (fun _ => 0)).toArray rfl rfl (by rw [List.size_toArray, entL_len]; exact hh6) (by rw [List.size_toArray]; exact size_ent _ _ _) (entL_one _ _ _ _ _) ?_
      rw [show (entL 0 (.slice (some ⟨b1, 0, none⟩) 1 1) (fun _ => 0)).toArray.toList = (entL 0 (.slice (some ⟨b1, 0, none⟩) 1 1) (fun _ => 0)) from rfl]
      have hS2 := hS.store b6 gg6 (entL 0 (.slice (some ⟨b1, 0, none⟩) 1 1) (fun _ => 0))
      refine hK.out _ _ hS2 (fun _ => ?_)
      clear hK K
      try simp only [Act.put, List.setIfInBounds_toArray, List.set_cons_zero, List.set_cons_succ]
      have mm6 := entAt_stored hh6 0 (.slice (some ⟨b1, 0, none⟩) 1 1) (fun _ => 0)
      have hh1' := hh1.block (setCells_other b6 b1 (by omega) (entL 0 (.slice (some ⟨b1, 0, none⟩) 1 1) (fun _ => 0)) 0 w0)
      have hh7' := there_block hh7 (setCells_other b6 b7 (by omega) (entL 0 (.slice (some ⟨b1, 0, none⟩) 1 1) (fun _ => 0)) 0 w0)
      have ll1' : b1 < (w0.setCells b6 0 (entL 0 (.slice (some ⟨b1, 0, none⟩) 1 1) (fun _ => 0))).heap.size := by rw [setCells_size]; exact ll1
      have ll6' : b6 < (w0.setCells b6 0 (entL 0 (.slice (some ⟨b1, 0, none⟩) 1 1) (fun _ => 0))).heap.size := by rw [setCells_size]; exact ll6
      have ll7' : b7 < (w0.setCells b6 0 (entL 0 (.slice (some ⟨b1, 0, none⟩) 1 1) (fun _ => 0))).heap.size := by rw [setCells_size]; exact ll7
      clear hS hh6 hh1 hh7 ll1 ll6 ll7
      have hh1 := hh1'
      clear hh1'
      have hh7 := hh7'
      clear hh7'
      have ll1 := ll1'
      clear ll1'
      have ll6 := ll6'
      clear ll6'
      have ll7 := ll7'
      clear ll7'
      have hS := hS2
      clear hS2
      generalize w0.setCells b6 0 (entL 0 (.slice (some ⟨b1, 0, none⟩) 1 1) (fun _ => 0)) = w1 at *
      try clear w0
      obtain ⟨w0, rfl⟩ : ∃ x, x = w1 := ⟨_, rfl⟩
      refine wpAnyH_ready (rs := [4]) (by kernel_rfl) (by simp) ?_
      refine AllReadyH.cons rfl (fun K hK => ?_) AllReadyH.nil
      ·
       go_simp
       refine hK.out _ _ ?_ (fun _ => ?_)
       · exact hS.alloc (Obj.cells #[.int .i64 k2, .int .i64 s2, .int .i64 g2, .int .i64 p2] 43)
       clear hK K
       try simp only [Act.put, List.setIfInBounds_toArray, List.set_cons_zero, List.set_cons_succ]
       have hS2 := hS.alloc (Obj.cells #[.int .i64 k2, .int .i64 s2, .int .i64 g2, .int .i64 p2] 43)
       have gg4 := hS.sz
       have hh4 := evsAt_box k2 s2 g2 p2 w0
       have ll4 : w0.heap.size < (w0.alloc (Obj.cells #[.int .i64 k2, .int .i64 s2, .int .i64 g2, .int .i64 p2] 43)).heap.size := by simp
       have mm6' := mm6.block (Below.heap_alloc w0 (Obj.cells #[.int .i64 k2, .int .i64 s2, .int .i64 g2, .int .i64 p2] 43) b6 ll6)
       have ll6' : b6 < (w0.alloc (Obj.cells #[.int .i64 k2, .int .i64 s2, .int .i64 g2, .int .i64 p2] 43)).heap.size := by simp; omega
       have nn46 : w0.heap.size ≠ b6 := by omega
       have hh7' := there_block hh7 (Below.heap_alloc w0 (Obj.cells #[.int .i64 k2, .int .i64 s2, .int .i64 g2, .int .i64 p2] 43) b7 ll7)
       have ll7' : b7 < (w0.alloc (Obj.cells #[.int .i64 k2, .int .i64 s2, .int .i64 g2, .int .i64 p2] 43)).heap.size := by simp; omega
       have nn47 : w0.heap.size ≠ b7 := by omega
       have hh1' := hh1.block (Below.heap_alloc w0 (Obj.cells #[.int .i64 k2, .int .i64 s2, .int .i64 g2, .int .i64 p2] 43) b1 ll1)
       have ll1' : b1 < (w0.alloc (Obj.cells #[.int .i64 k2, .int .i64 s2, .int .i64 g2, .int .i64 p2] 43)).heap.size := by simp; omega
       have nn41 : w0.heap.size ≠ b1 := by omega
       clear hS mm6 ll6 hh7 ll7 hh1 ll1
       have mm6 := mm6'
       have ll6 := ll6'
       clear mm6' ll6'
       have hh7 := hh7'
       have ll7 := ll7'
       clear hh7' ll7'
       have hh1 := hh1'
       have ll1 := ll1'
       clear hh1' ll1'
       have hS := hS2
       clear hS2
       generalize w0.alloc (Obj.cells #[.int .i64 k2, .int .i64 s2, .int .i64 g2, .int .i64 p2] 43) = w1 at *
       generalize w0.heap.size = b4 at *
       try clear w0
       obtain ⟨w0, rfl⟩ : ∃ x, x = w1 := ⟨_, rfl⟩
       refine wpAnyH_take (i := 5) (v := ?_) rfl (by kernel_rfl) (by kernel_rfl) (by kernel_rfl) (hQp 14 _) (Or.inl ⟨by rfl, ?_⟩) hS ?_
       rotate_left 1
       · intro w hw; refine build_run _ _ 13 b4 _ ?_ ?_ <;> rfl
       try simp only [Act.put, List.setIfInBounds_toArray, List.set_cons_zero, List.set_cons_succ]
       refine wpAnyH_ready (rs := [9]) (by kernel_rfl) (by simp) ?_
       refine AllReadyH.cons rfl (fun K hK => ?_) AllReadyH.nil
       ·
        rw [if_pos (by rfl)]
        refine wp_store_mid 28 _ _ rfl b7 0 (entL 0 (.slice (some ⟨b4, 0, none⟩) 1 1) (fun _ => 0)).toArray rfl rfl (by rw [List.size_toArray, entL_len]; exact hh7) (by rw [List.size_toArray]; exact size_ent _ _ _) (entL_one _ _ _ _ _) ?_
        rw [show (entL 0 (.slice (some ⟨b4, 0, none⟩) 1 1) (fun _ => 0)).toArray.toList = (entL 0 (.slice (some ⟨b4, 0, none⟩) 1 1) (fun _ => 0)) from rfl]
        have hS2 := hS.store b7 gg7 (entL 0 (.slice (some ⟨b4, 0, none⟩) 1 1) (fun _ => 0))
        refine hK.out _ _ hS2 (fun _ => ?_)
        clear hK K
        try simp only [Act.put, List.setIfInBounds_toArray, List.set_cons_zero, List.set_cons_succ]
        have mm7 := entAt_stored hh7 0 (.slice (some ⟨b4, 0, none⟩) 1 1) (fun _ => 0)
        have hh1' := hh1.block (setCells_other b7 b1 (by omega) (entL 0 (.slice (some ⟨b4, 0, none⟩) 1 1) (fun _ => 0)) 0 w0)
        have hh4' := hh4.block (setCells_other b7 b4 (by omega) (entL 0 (.slice (some ⟨b4, 0, none⟩) 1 1) (fun _ => 0)) 0 w0)
        have mm6' := mm6.block (setCells_other b7 b6 (by omega) (entL 0 (.slice (some ⟨b4, 0, none⟩) 1 1) (fun _ => 0)) 0 w0)
        have ll1' : b1 < (w0.setCells b7 0 (entL 0 (.slice (some ⟨b4, 0, none⟩) 1 1) (fun _ => 0))).heap.size := by rw [setCells_size]; exact ll1
        have ll4' : b4 < (w0.setCells b7 0 (entL 0 (.slice (some ⟨b4, 0, none⟩) 1 1) (fun _ => 0))).heap.size := by rw [setCells_size]; exact ll4
        have ll6' : b6 < (w0.setCells b7 0 (entL 0 (.slice (some ⟨b4, 0, none⟩) 1 1) (fun _ => 0))).heap.size := by rw [setCells_size]; exact ll6
        have ll7' : b7 < (w0.setCells b7 0 (entL 0 (.slice (some ⟨b4, 0, none⟩) 1 1) (fun _ => 0))).heap.size := by rw [setCells_size]; exact ll7
        clear hS hh7 hh1 hh4 mm6 ll1 ll4 ll6 ll7
        have hh1 := hh1'
        clear hh1'
        have hh4 := hh4'
        clear hh4'
        have mm6 := mm6'
        clear mm6'
        have ll1 := ll1'
        clear ll1'
        have ll4 := ll4'
        clear ll4'
        have ll6 := ll6'
        clear ll6'
        have ll7 := ll7'
        clear ll7'
        have hS := hS2
        clear hS2
        generalize w0.setCells b7 0 (entL 0 (.slice (some ⟨b4, 0, none⟩) 1 1) (fun _ => 0)) = w1 at *
        try clear w0
        obtain ⟨w0, rfl⟩ : ∃ x, x = w1 := ⟨_, rfl⟩
        refine wpAnyH_done (by kernel_rfl) ?_ _
        exact hQn _ _ _ _ _ _ b1 b4 b6 b7 w0 hh1 hh4 mm6 mm7 hS
    ·
     go_simp
     refine hK.out _ _ ?_ (fun _ => ?_)
     · exact hS.alloc (Obj.cells #[.int .i64 k2, .int .i64 s2, .int .i64 g2, .int .i64 p2] 43)
     clear hK K
     try simp only [Act.put, List.setIfInBounds_toArray, List.set_cons_zero, List.set_cons_succ]
     have hS2 := hS.alloc (Obj.cells #[.int .i64 k2, .int .i64 s2, .int .i64 g2, .int .i64 p2] 43)
     have gg4 := hS.sz
     have hh4 := evsAt_box k2 s2 g2 p2 w0
     have ll4 : w0.heap.size < (w0.alloc (Obj.cells #[.int .i64 k2, .int .i64 s2, .int .i64 g2, .int .i64 p2] 43)).heap.size := by simp
     have hh6' := there_block hh6 (Below.heap_alloc w0 (Obj.cells #[.int .i64 k2, .int .i64 s2, .int .i64 g2, .int .i64 p2] 43) b6 ll6)
     have ll6' : b6 < (w0.alloc (Obj.cells #[.int .i64 k2, .int .i64 s2, .int .i64 g2, .int .i64 p2] 43)).heap.size := by simp; omega
     have nn46 : w0.heap.size ≠ b6 := by omega
     have hh7' := there_block hh7 (Below.heap_alloc w0 (Obj.cells #[.int .i64 k2, .int .i64 s2, .int .i64 g2, .int .i64 p2] 43) b7 ll7)
     have ll7' : b7 < (w0.alloc (Obj.cells #[.int .i64 k2, .int .i64 s2, .int .i64 g2, .int .i64 p2] 43)).heap.size := by simp; omega
     have nn47 : w0.heap.size ≠ b7 := by omega
     clear hS hh6 ll6 hh7 ll7
     have hh6 := hh6'
     have ll6 := ll6'
     clear hh6' ll6'
     have hh7 := hh7'
     have ll7 := ll7'
     clear hh7' ll7'
     have hS := hS2
     clear hS2
     generalize w0.alloc (Obj.cells #[.int .i64 k2, .int .i64 s2, .int .i64 g2, .int .i64 p2] 43) = w1 at *
     generalize w0.heap.size = b4 at *
     try clear w0
     obtain ⟨w0, rfl⟩ : ∃ x, x = w1 := ⟨_, rfl⟩
     refine wpAnyH_take (i := 5) (v := ?_) rfl (by kernel_rfl) (by kernel_rfl) (by kernel_rfl) (hQp 14 _) (Or.inl ⟨by rfl, ?_⟩) hS ?_
     rotate_left 1
     · intro w hw; refine build_run _ _ 13 b4 _ ?_ ?_ <;> rfl
     try simp only [Act.put, List.setIfInBounds_toArray, List.set_cons_zero, List.set_cons_succ]
     refine wpAnyH_ready (rs := [1]) (by kernel_rfl) (by simp) ?_
     refine AllReadyH.cons rfl (fun K hK => ?_) AllReadyH.nil
     ·
      go_simp
      refine hK.out _ _ ?_ (fun _ => ?_)
      · exact hS.alloc (Obj.cells #[.int .i64 k1, .int .i64 s1, .int .i64 g1, .int .i64 p1] 43)
      clear hK K
      try simp only [Act.put, List.setIfInBounds_toArray, List.set_cons_zero, List.set_cons_succ]
      have hS2 := hS.alloc (Obj.cells #[.int .i64 k1, .int .i64 s1, .int .i64 g1, .int .i64 p1] 43)
      have gg1 := hS.sz
      have hh1 := evsAt_box k1 s1 g1 p1 w0
      have ll1 : w0.heap.size < (w0.alloc (Obj.cells #[.int .i64 k1, .int .i64 s1, .int .i64 g1, .int .i64 p1] 43)).heap.size := by simp
      have hh6' := there_block hh6 (Below.heap_alloc w0 (Obj.cells #[.int .i64 k1, .int .i64 s1, .int .i64 g1, .int .i64 p1] 43) b6 ll6)
      have ll6' : b6 < (w0.alloc (Obj.cells #[.int .i64 k1, .int .i64 s1, .int .i64 g1, .int .i64 p1] 43)).heap.size := by simp; omega
      have nn16 : w0.heap.size ≠ b6 := by omega
      have hh7' := there_block hh7 (Below.heap_alloc w0 (Obj.cells #[.int .i64 k1, .int .i64 s1, .int .i64 g1, .int .i64 p1] 43) b7 ll7)
      have ll7' : b7 < (w0.alloc (Obj.cells #[.int .i64 k1, .int .i64 s1, .int .i64 g1, .int .i64 p1] 43)).heap.size := by simp; omega
      have nn17 : w0.heap.size ≠ b7 := by omega
      have hh4' := hh4.block (Below.heap_alloc w0 (Obj.cells #[.int .i64 k1, .int .i64 s1, .int .i64 g1, .int .i64 p1] 43) b4 ll4)
      have ll4' : b4 < (w0.alloc (Obj.cells #[.int .i64 k1, .int .i64 s1, .int .i64 g1, .int .i64 p1] 43)).heap.size := by simp; omega
      have nn14 : w0.heap.size ≠ b4 := by omega
      clear hS hh6 ll6 hh7 ll7 hh4 ll4
      have hh6 := hh6'
      have ll6 := ll6'
      clear hh6' ll6'
      have hh7 := hh7'
      have ll7 := ll7'
      clear hh7' ll7'
      have hh4 := hh4'
      have ll4 := ll4'
      clear hh4' ll4'
      have hS := hS2
      clear hS2
      generalize w0.alloc (Obj.cells #[.int .i64 k1, .int .i64 s1, .int .i64 g1, .int .i64 p1] 43) = w1 at *
      generalize w0.heap.size = b1 at *
      try clear w0
      obtain ⟨w0, rfl⟩ : ∃ x, x = w1 := ⟨_, rfl⟩
      refine wpAnyH_take (i := 2) (v := ?_) rfl (by kernel_rfl) (by kernel_rfl) (by kernel_rfl) (hQp 11 _) (Or.inl ⟨by rfl, ?_⟩) hS ?_
      rotate_left 1
      · intro w hw; refine build_run _ _ 10 b1 _ ?_ ?_ <;> rfl
      try simp only [Act.put, List.setIfInBounds_toArray, List.set_cons_zero, List.set_cons_succ]
      refine wpAnyH_ready (rs := [8]) (by kernel_rfl) (by simp) ?_
      refine AllReadyH.cons rfl (fun K hK => ?_) AllReadyH.nil
      ·
       rw [if_pos (by rfl)]
       refine wp_store_mid 28 _ _ rfl b6 0 (entL 0 (.slice (some ⟨b1, 0, none⟩) 1 1) (fun _ => 0)).toArray rfl rfl (by rw [List.size_toArray, entL_len]; exact hh6) (by rw [List.size_toArray]; exact size_ent _ _ _) (entL_one _ _ _ _ _) ?_
       rw [show (entL 0 (.slice (some ⟨b1, 0, none⟩) 1 1) (fun _ => 0)).toArray.toList = (entL 0 (.slice (some ⟨b1, 0, none⟩) 1 1) (fun _ => 0)) from rfl]
       have hS2 := hS.store b6 gg6 (entL 0 (.slice (some ⟨b1, 0, none⟩) 1 1) (fun _ => 0))
       refine hK.out _ _ hS2 (fun _ => ?_)
       clear hK K
       try simp only [Act.put, List.setIfInBounds_toArray, List.set_cons_zero, List.set_cons_succ]
       have mm6 := entAt_stored hh6 0 (.slice (some ⟨b1, 0, none⟩) 1 1) (fun _ => 0)
       have hh1' := hh1.block (setCells_other b6 b1 (by omega) (entL 0 (.slice (some ⟨b1, 0, none⟩) 1 1) (fun _ => 0)) 0 w0)
       have hh4' := hh4.block (setCells_other b6 b4 (by omega) (entL 0 (.slice (some ⟨b1, 0, none⟩) 1 1) (fun _ => 0)) 0 w0)
       have hh7' := there_block hh7 (setCells_other b6 b7 (by omega) (entL 0 (.slice (some ⟨b1, 0, none⟩) 1 1) (fun _ => 0)) 0 w0)
       have ll1' : b1 < (w0.setCells b6 0 (entL 0 (.slice (some ⟨b1, 0, none⟩) 1 1) (fun _ => 0))).heap.size := by rw [setCells_size]; exact ll1
       have ll4' : b4 < (w0.setCells b6 0 (entL 0 (.slice (some ⟨b1, 0, none⟩) 1 1) (fun _ => 0))).heap.size := by rw [setCells_size]; exact ll4
       have ll6' : b6 < (w0.setCells b6 0 (entL 0 (.slice (some ⟨b1, 0, none⟩) 1 1) (fun _ => 0))).heap.size := by rw [setCells_size]; exact ll6
       have ll7' : b7 < (w0.setCells b6 0 (entL 0 (.slice (some ⟨b1, 0, none⟩) 1 1) (fun _ => 0))).heap.size := by rw [setCells_size]; exact ll7
       clear hS hh6 hh1 hh4 hh7 ll1 ll4 ll6 ll7
       have hh1 := hh1'
       clear hh1'
       have hh4 := hh4'
       clear hh4'
       have hh7 := hh7'
       clear hh7'
       have ll1 := ll1'
       clear ll1'
       have ll4 := ll4'
       clear ll4'
       have ll6 := ll6'
       clear ll6'
       have ll7 := ll7'
       clear ll7'
       have hS := hS2
       clear hS2
       generalize w0.setCells b6 0 (entL 0 (.slice (some ⟨b1, 0, none⟩) 1 1) (fun _ => 0)) = w1 at *
       try clear w0
       obtain ⟨w0, rfl⟩ : ∃ x, x = w1 := ⟨_, rfl⟩
       refine wpAnyH_ready (rs := [9]) (by kernel_rfl) (by simp) ?_
       refine AllReadyH.cons rfl (fun K hK => ?_) AllReadyH.nil
       ·
        rw [if_pos (by rfl)]
        refine wp_store_mid 28 _ _ rfl b7 0 (entL 0 (.slice (some ⟨b4, 0, none⟩) 1 1) (fun _ => 0)).toArray rfl rfl (by rw [List.size_toArray, entL_len]; exact hh7) (by rw [List.size_toArray]; exact size_ent _ _ _) (entL_one _ _ _ _ _) ?_
        rw [show (entL 0 (.slice (some ⟨b4, 0, none⟩) 1 1) (fun _ => 0)).toArray.toList = (entL 0 (.slice (some ⟨b4, 0, none⟩) 1 1) (fun _ => 0)) from rfl]
        have hS2 := hS.store b7 gg7 (entL 0 (.slice (some ⟨b4, 0, none⟩) 1 1) (fun _ => 0))
        refine hK.out _ _ hS2 (fun _ => ?_)
        clear hK K
        try simp only [Act.put, List.setIfInBounds_toArray, List.set_cons_zero, List.set_cons_succ]
        have mm7 := entAt_stored hh7 0 (.slice (some ⟨b4, 0, none⟩) 1 1) (fun _ => 0)
        have hh1' := hh1.block (setCells_other b7 b1 (by omega) (entL 0 (.slice (some ⟨b4, 0, none⟩) 1 1) (fun _ => 0)) 0 w0)
        have hh4' := hh4.block (setCells_other b7 b4 (by omega) (entL 0 (.slice (some ⟨b4, 0, none⟩) 1 1) (fun _ => 0)) 0 w0)
        have mm6' := mm6.block (setCells_other b7 b6 (by omega) (entL 0 (.slice (some ⟨b4, 0, none⟩) 1 1) (fun _ => 0)) 0 w0)
        have ll1' : b1 < (w0.setCells b7 0 (entL 0 (.slice (some ⟨b4, 0, none⟩) 1 1) (fun _ => 0))).heap.size := by rw [setCells_size]; exact ll1
        have ll4' : b4 < (w0.setCells b7 0 (entL 0 (.slice (some ⟨b4, 0, none⟩) 1 1) (fun _ => 0))).heap.size := by rw [setCells_size]; exact ll4
        have ll6' : b6 < (w0.setCells b7 0 (entL 0 (.slice (some ⟨b4, 0, none⟩) 1 1) (fun _ => 0))).heap.size := by rw [setCells_size]; exact ll6
        have ll7' : b7 < (w0.setCells b7 0 (entL 0 (.slice (some ⟨b4, 0, none⟩) 1 1) (fun _ => 0))).heap.size := by rw [setCells_size]; exact ll7
        clear hS hh7 hh1 hh4 mm6 ll1 ll4 ll6 ll7
        have hh1 := hh1'
        clear hh1'
        have hh4 := hh4'
        clear hh4'
        have mm6 := mm6'
        clear mm6'
        have ll1 := ll1'
        clear ll1'
        have ll4 := ll4'
        clear ll4'
        have ll6 := ll6'
        clear ll6'
        have ll7 := ll7'
        clear ll7'
        have hS := hS2
        clear hS2
        generalize w0.setCells b7 0 (entL 0 (.slice (some ⟨b4, 0, none⟩) 1 1) (fun _ => 0)) = w1 at *
        try clear w0
        obtain ⟨w0, rfl⟩ : ∃ x, x = w1 := ⟨_, rfl⟩
        refine wpAnyH_done (by kernel_rfl) ?_ _
        exact hQn _ _ _ _ _ _ b1 b4 b6 b7 w0 hh1 hh4 mm6 mm7 hS
  ·
   go_simp
   refine hK.out _ _ ?_ (fun _ => ?_)
   · exact hS.alloc (Obj.cells (entL 0 (.slice none 0 0) (fun _ => 0)).toArray 28)
   clear hK K
   try simp only [Act.put, List.setIfInBounds_toArray, List.set_cons_zero, List.set_cons_succ]
   have hS2 := hS.alloc (Obj.cells (entL 0 (.slice none 0 0) (fun _ => 0)).toArray 28)
   have gg7 := hS.sz
   have hh7 := there_box w0
   have ll7 : w0.heap.size < (w0.alloc (Obj.cells (entL 0 (.slice none 0 0) (fun _ => 0)).toArray 28)).heap.size := by simp
   clear hS
   have hS := hS2
   clear hS2
   generalize w0.alloc (Obj.cells (entL 0 (.slice none 0 0) (fun _ => 0)).toArray 28) = w1 at *
   generalize w0.heap.size = b7 at *
   try clear w0
   obtain ⟨w0, rfl⟩ : ∃ x, x = w1 := ⟨_, rfl⟩
   refine wpAnyH_ready (rs := [1, 4, 6]) (by kernel_rfl) (by simp) ?_
   refine AllReadyH.cons rfl (fun K hK => ?_) (AllReadyH.cons rfl (fun K hK => ?_) (AllReadyH.cons rfl (fun K hK => ?_) AllReadyH.nil))
   ·
    go_simp
    refine hK.out _ _ ?_ (fun _ => ?_)
    · exact hS.alloc (Obj.cells #[.int .i64 k1, .int .i64 s1, .int .i64 g1, .int .i64 p1] 43)
    clear hK K
    try simp only [Act.put, List.setIfInBounds_toArray, List.set_cons_zero, List.set_cons_succ]
    have hS2 := hS.alloc (Obj.cells #[.int .i64 k1, .int .i64 s1, .int .i64 g1, .int .i64 p1] 43)
    have gg1 := hS.sz
    have hh1 := evsAt_box k1 s1 g1 p1 w0
    have ll1 : w0.heap.size < (w0.alloc (Obj.cells #[.int .i64 k1, .int .i64 s1, .int .i64 g1, .int .i64 p1] 43)).heap.size := by simp
    have hh7' := there_block hh7 (Below.heap_alloc w0 (Obj.cells #[.int .i64 k1, .int .i64 s1, .int .i64 g1, .int .i64 p1] 43) b7 ll7)
    have ll7' : b7 < (w0.alloc (Obj.cells #[.int .i64 k1, .int .i64 s1, .int .i64 g1, .int .i64 p1] 43)).heap.size := by simp; omega
    have nn17 : w0.heap.size ≠ b7 := by omega
    clear hS hh7 ll7
    have hh7 := hh7'
    have ll7 := ll7'
    clear hh7' ll7'
    have hS := hS2
    clear hS2
    generalize w0.alloc (Obj.cells #[.int .i64 k1, .int .i64 s1, .int .i64 g1, .int .i64 p1] 43) = w1 at *
    generalize w0.heap.size = b1 at *
    try clear w0
    obtain ⟨w0, rfl⟩ : ∃ x, x = w1 := ⟨_, rfl⟩
    refine wpAnyH_take (i := 2) (v := ?_) rfl (by kernel_rfl) (by kernel_rfl) (by kernel_rfl) (hQp 11 _) (Or.inl ⟨by rfl, ?_⟩) hS ?_
    rotate_left 1
    · intro w hw; refine build_run _ _ 10 b1 _ ?_ ?_ <;> rfl
    try simp only [Act.put, List.setIfInBounds_toArray, List.set_cons_zero, List.set_cons_succ]
    refine wpAnyH_ready (rs := [4, 6]) (by kernel_rfl) (by simp) ?_
    refine AllReadyH.cons rfl (fun K hK => ?_) (AllReadyH.cons rfl (fun K hK => ?_) AllReadyH.nil)
    ·
     go_simp
     refine hK.out _ _ ?_ (fun _ => ?_)
     · exact hS.alloc (Obj.cells #[.int .i64 k2, .int .i64 s2, .int .i64 g2, .int .i64 p2] 43)
     clear hK K
     try simp only [Act.put, List.setIfInBounds_toArray, List.set_cons_zero, List.set_cons_succ]
     have hS2 := hS.alloc (Obj.cells #[.int .i64 k2, .int .i64 s2, .int .i64 g2, .int .i64 p2] 43)
     have gg4 := hS.sz
     have hh4 := evsAt_box k2 s2 g2 p2 w0
     have ll4 : w0.heap.size < (w0.alloc (Obj.cells #[.int .i64 k2, .int .i64 s2, .int .i64 g2, .int .i64 p2] 43)).heap.size := by simp
     have hh7' := there_block hh7 (Below.heap_alloc w0 (Obj.cells #[.int .i64 k2, .int .i64 s2, .int .i64 g2, .int .i64 p2] 43) b7 ll7)
     have ll7' : b7 < (w0.alloc (Obj.cells #[.int .i64 k2, .int .i64 s2, .int .i64 g2, .int .i64 p2] 43)).heap.size := by simp; omega
     have nn47 : w0.heap.size ≠ b7 := by omega
     have hh1' := hh1.block (Below.heap_alloc w0 (Obj.cells #[.int .i64 k2, .int .i64 s2, .int .i64 g2, .int .i64 p2] 43) b1 ll1)
     have ll1' : b1 < (w0.alloc (Obj.cells #[.int .i64 k2, .int .i64 s2, .int .i64 g2, .int .i64 p2] 43)).heap.size := by simp; omega
     have nn41 : w0.heap.size ≠ b1 := by omega
     clear hS hh7 ll7 hh1 ll1
     have hh7 := hh7'
     have ll7 := ll7'
     clear hh7' ll7'
     have hh1 := hh1'
     have ll1 := ll1'
     clear hh1' ll1'
     have hS := hS2
     clear hS2
     generalize w0.alloc (Obj.cells #[.int .i64 k2, .int .i64 s2, .int .i64 g2, .int .i64 p2] 43) = w1 at *
     generalize w0.heap.size = b4 at *
     try clear w0
     obtain ⟨w0, rfl⟩ : ∃ x, x = w1 := ⟨_, rfl⟩
     refine wpAnyH_take (i := 5) (v := ?_) rfl (by kernel_rfl) (by kernel_rfl) (by kernel_rfl) (hQp 14 _) (Or.inl ⟨by rfl, ?_⟩) hS ?_
     rotate_left 1
     · intro w hw; refine build_run _ _ 13 b4 _ ?_ ?_ <;> rfl
     try simp only [Act.put, List.setIfInBounds_toArray, List.set_cons_zero, List.set_cons_succ]
     refine wpAnyH_ready (rs := [6]) (by kernel_rfl) (by simp) ?_
     refine AllReadyH.cons rfl (fun K hK => ?_) AllReadyH.nil
     ·
      go_simp
      refine hK.out _ _ ?_ (fun _ => ?_)
      · exact hS.alloc (Obj.cells (entL 0 (.slice none 0 0) (fun _ => 0)).toArray 28)
      clear hK K
      try simp only [Act.put, List.setIfInBounds_toArray, List.set_cons_zero, List.set_cons_succ]
      have hS2 := hS.alloc (Obj.cells (entL 0 (.slice none 0 0) (fun _ => 0)).toArray 28)
      have gg6 := hS.sz
      have hh6 := there_box w0
      have ll6 : w0.heap.size < (w0.alloc (Obj.cells (entL 0 (.slice none 0 0) (fun _ => 0)).toArray 28)).heap.size := by simp
      have hh7' := there_block hh7 (Below.heap_alloc w0 (Obj.cells (entL 0 (.slice none 0 0) (fun _ => 0)).toArray 28) b7 ll7)
      have ll7' : b7 < (w0.alloc (Obj.cells (entL 0 (.slice none 0 0) (fun _ => 0)).toArray 28)).heap.size := by simp; omega
      have nn67 : w0.heap.size ≠ b7 := by omega
      have hh1' := hh1.block (Below.heap_alloc w0 (Obj.cells (entL 0 (.slice none 0 0) (fun _ => 0)).toArray 28) b1 ll1)
      have ll1' : b1 < (w0.alloc (Obj.cells (entL 0 (.slice none 0 0) (fun _ => 0)).toArray 28)).heap.size := by simp; omega
      have nn61 : w0.heap.size ≠ b1 := by omega
      have hh4' := hh4.block (Below.heap_alloc w0 (Obj.cells (entL 0 (.slice none 0 0) (fun _ => 0)).toArray 28) b4 ll4)
      have ll4' : b4 < (w0.alloc (Obj.cells (entL 0 (.slice none 0 0) (fun _ => 0)).toArray 28)).heap.size := by simp; omega
      have nn64 : w0.heap.size ≠ b4 := by omega
      clear hS hh7 ll7 hh1 ll1 hh4 ll4
      have hh7 := hh7'
      have ll7 := ll7'
      clear hh7' ll7'
      have hh1 := hh1'
      have ll1 := ll1'
      clear hh1' ll1'
      have hh4 := hh4'
      have ll4 := ll4'
      clear hh4' ll4'
      have hS := hS2
      clear hS2
      generalize w0.alloc (Obj.cells (entL 0 (.slice none 0 0) (fun _ => 0)).toArray 28) = w1 at *
      generalize w0.heap.size = b6 at *
      try clear w0
      obtain ⟨w0, rfl⟩ : ∃ x, x = w1 := ⟨_, rfl⟩
      refine wpAnyH_ready (rs := [8]) (by kernel_rfl) (by simp) ?_
      refine AllReadyH.cons rfl (fun K hK => ?_) AllReadyH.nil
      ·
       rw [if_pos (by rfl)]
       refine wp_store_mid 28 _ _ rfl b6 0 (entL 0 (.slice (some ⟨b1, 0, none⟩) 1 1) (fun _ => 0)).toArray rfl rfl (by rw [List.size_toArray, entL_len]; exact hh6) (by rw [List.size_toArray]; exact size_ent _ _ _) (entL_one _ _ _ _ _) ?_
       rw [show (entL 0 (.slice (some ⟨b1, 0, none⟩) 1 1) (fun _ => 0)).toArray.toList = (entL 0 (.slice (some ⟨b1, 0, none⟩) 1 1) (fun _ => 0)) from rfl]
       have hS2 := hS.store b6 gg6 (entL 0 (.slice (some ⟨b1, 0, none⟩) 1 1) (fun _ => 0))
       refine hK.out _ _ hS2 (fun _ => ?_)
       clear hK K
       try simp only [Act.put, List.setIfInBounds_toArray, List.set_cons_zero, List.set_cons_succ]
       have mm6 := entAt_stored hh6 0 (.slice (some ⟨b1, 0, none⟩) 1 1) (fun _ => 0)
       have hh1' := hh1.block (setCells_other b6 b1 (by omega) (entL 0 (.slice (some ⟨b1, 0, none⟩) 1 1) (fun _ => 0)) 0 w0)
       have hh4' := hh4.block (setCells_other b6 b4 (by omega) (entL 0 (.slice (some ⟨b1, 0, none⟩) 1 1) (fun _ => 0)) 0 w0)
       have hh7' := there_block hh7 (setCells_other b6 b7 (by omega) (entL 0 (.slice (some ⟨b1, 0, none⟩) 1 1) (fun _ => 0)) 0 w0)
       have ll1' : b1 < (w0.setCells b6 0 (entL 0 (.slice (some ⟨b1, 0, none⟩) 1 1) (fun _ => 0))).heap.size := by rw [setCells_size]; exact ll1
       have ll4' : b4 < (w0.setCells b6 0 (entL 0 (.slice (some ⟨b1, 0, none⟩) 1 1) (fun _ => 0))).heap.size := by rw [setCells_size]; exact ll4
       have ll6' : b6 < (w0.setCells b6 0 (entL 0 (.slice (some ⟨b1, 0, none⟩) 1 1) (fun _ => 0))).heap.size := by rw [setCells_size]; exact ll6
       have ll7' : b7 < (w0.setCells b6 0 (entL 0 (.slice (some ⟨b1, 0, none⟩) 1 1) (fun _ => 0))).heap.size := by rw [setCells_size]; exact ll7
       clear hS hh6 hh1 hh4 hh7 ll1 ll4 ll6 ll7
       have hh1 := hh1'
       clear hh1'
       have hh4 := hh4'
       clear hh4'
       have hh7 := hh7'
       clear hh7'
       have ll1 := ll1'
       clear ll1'
       have ll4 := ll4'
       clear ll4'
       have ll6 := ll6'
       clear ll6'
       have ll7 := ll7'
       clear ll7'
       have hS := hS2
       clear hS2
       generalize w0.setCells b6 0 (entL 0 (.slice (some ⟨b1, 0, none⟩) 1 1) (fun _ => 0)) = w1 at *
       try clear w0
       obtain ⟨w0, rfl⟩ : ∃ x, x = w1 := ⟨_, rfl⟩
       refine wpAnyH_ready (rs := [9]) (by kernel_rfl) (by simp) ?_
       refine AllReadyH.cons rfl (fun K hK => ?_) AllReadyH.nil
       ·
        rw [if_pos (by rfl)]
        refine wp_store_mid 28 _ _ rfl b7 0 (entL 0 (.slice (some ⟨b4, 0, none⟩) 1 1) (fun _ => 0)).toArray rfl rfl (by rw [List.size_toArray, entL_len]; exact hh7) (by rw [List.size_toArray]; exact size_ent _ _ _) (entL_one _ _ _ _ _) ?_
        rw [show (entL 0 (.slice (some ⟨b4, 0, none⟩) 1 1) (fun _ => 0)).toArray.toList = (entL 0 (.slice (some ⟨b4, 0, none⟩) 1 1) (fun _ => 0)) from rfl]
        have hS2 := hS.store b7 gg7 (entL 0 (.slice (some ⟨b4, 0, none⟩) 1 1) (fun _ => 0))
        refine hK.out _ _ hS2 (fun _ => ?_)
        clear hK K
        try simp only [Act.put, List.setIfInBounds_toArray, List.set_cons_zero, List.set_cons_succ]
        have mm7 := entAt_stored hh7 0 (.slice (some ⟨b4, 0, none⟩) 1 1) (fun _ => 0)
        have hh1' := hh1.block (setCells_other b7 b1 (by omega) (entL 0 (.slice (some ⟨b4, 0, none⟩) 1 1) (fun _ => 0)) 0 w0)
        have hh4' := hh4.block (setCells_other b7 b4 (by omega) (entL 0 (.slice (some ⟨b4, 0, none⟩) 1 1) (fun _ => 0)) 0 w0)
        have mm6' := mm6.block (setCells_other b7 b6 (by omega) (entL 0 (.slice (some ⟨b4, 0, none⟩) 1 1) (fun _ => 0)) 0 w0)
        have ll1' : b1 < (w0.setCells b7 0 (entL 0 (.slice (some ⟨b4, 0, none⟩) 1 1) (fun _ => 0))).heap.size := by rw [setCells_size]; exact ll1
        have ll4' : b4 < (w0.setCells b7 0 (entL 0 (.slice (some ⟨b4, 0, none⟩) 1 1) (fun _ => 0))).heap.size := by rw [setCells_size]; exact ll4
        have ll6' : b6 < (w0.setCells b7 0 (entL 0 (.slice (some ⟨b4, 0, none⟩) 1 1) (fun _ => 0))).heap.size := by rw [setCells_size]; exact ll6
        have ll7' : b7 < (w0.setCells b7 0 (entL 0 (.slice (some ⟨b4, 0, none⟩) 1 1) (fun _ => 0))).heap.size := by rw [setCells_size]; exact ll7
        clear hS hh7 hh1 hh4 mm6 ll1 ll4 ll6 ll7
        have hh1 := hh1'
        clear hh1'
        have hh4 := hh4'
        clear hh4'
        have mm6 := mm6'
        clear mm6'
        have ll1 := ll1'
        clear ll1'
        have ll4 := ll4'
        clear ll4'
        have ll6 := ll6'
        clear ll6'
        have ll7 := ll7'
        clear ll7'
        have hS := hS2
        clear hS2
        generalize w0.setCells b7 0 (entL 0 (.slice (some ⟨b4, 0, none⟩) 1 1) (fun _ => 0)) = w1 at *
        try clear w0
        obtain ⟨w0, rfl⟩ : ∃ x, x = w1 := ⟨_, rfl⟩
        refine wpAnyH_done (by kernel_rfl) ?_ _
        exact hQn _ _ _ _ _ _ b1 b4 b6 b7 w0 hh1 hh4 mm6 mm7 hS
    ·
     go_simp
     refine hK.out _ _ ?_ (fun _ => ?_)
     · exact hS.alloc (Obj.cells (entL 0 (.slice none 0 0) (fun _ => 0)).toArray 28)
     clear hK K
     try simp only [Act.put, List.setIfInBounds_toArray, List.set_cons_zero, List.set_cons_succ]
     have hS2 := hS.alloc (Obj.cells (entL 0 (.slice none 0 0) (fun _ => 0)).toArray 28)
     have gg6 := hS.sz
     have hh6 := there_box w0
     have ll6 : w0.heap.size < (w0.alloc (Obj.cells (entL 0 (.slice none 0 0) (fun _ => 0)).toArray 28)).heap.size := by simp
     have hh7' := there_block hh7 (Below.heap_alloc w0 (Obj.cells (entL 0 (.slice none 0 0) (fun _ => 0)).toArray 28) b7 ll7)
     have ll7' : b7 < (w0.alloc (Obj.cells (entL 0 (.slice none 0 0) (fun _ => 0)).toArray 28)).heap.size := by simp; omega
     have nn67 : w0.heap.size ≠ b7 := by omega
     have hh1' := hh1.block (Below.heap_alloc w0 (Obj.cells (entL 0 (.slice none 0 0) (fun _ => 0)).toArray 28) b1 ll1)
     have ll1' : b1 < (w0.alloc (Obj.cells (entL 0 (.slice none 0 0) (fun _ => 0)).toArray 28)).heap.size := by simp; omega
     have nn61 : w0.heap.size ≠ b1 := by omega
     clear hS hh7 ll7 hh1 ll1
     have hh7 := hh7'
     have ll7 := ll7'
     clear hh7' ll7'
     have hh1 := hh1'
     have ll1 := ll1'
     clear hh1' ll1'
     have hS := hS2
     clear hS2
     generalize w0.alloc (Obj.cells (entL 0 (.slice none 0 0) (fun _ => 0)).toArray 28) = w1 at *
     generalize w0.heap.size = b6 at *
     try clear w0
     obtain ⟨w0, rfl⟩ : ∃ x, x = w1 := ⟨_, rfl⟩
     refine wpAnyH_ready (rs := [4, 8]) (by kernel_rfl) (by simp) ?_
     refine AllReadyH.cons rfl (fun K hK => ?_) (AllReadyH.cons rfl (fun K hK => ?_) AllReadyH.nil)
     ·
      go_simp
      refine hK.out _ _ ?_ (fun _ => ?_)
      · exact hS.alloc (Obj.cells #[.int .i64 k2, .int .i64 s2, .int .i64 g2, .int .i64 p2] 43)
      clear hK K
      try simp only [Act.put, List.setIfInBounds_toArray, List.set_cons_zero, List.set_cons_succ]
      have hS2 := hS.alloc (Obj.cells #[.int .i64 k2, .int .i64 s2, .int .i64 g2, .int .i64 p2] 43)
      have gg4 := hS.sz
      have hh4 := evsAt_box k2 s2 g2 p2 w0
      have ll4 : w0.heap.size < (w0.alloc (Obj.cells #[.int .i64 k2, .int .i64 s2, .int .i64 g2, .int .i64 p2] 43)).heap.size := by simp
      have hh7' := there_block hh7 (Below.heap_alloc w0 (Obj.cells #[.int .i64 k2, .int .i64 s2, .int .i64 g2, .int .i64 p2] 43) b7 ll7)
      have ll7' : b7 < (w0.alloc (Obj.cells #[.int .i64 k2, .int .i64 s2, .int .i64 g2, .int .i64 p2] 43)).heap.size := by simp; omega
      have nn47 : w0.heap.size ≠ b7 := by omega
      have hh1' := hh1.block (Below.heap_alloc w0 (Obj.cells #[.int .i64 k2, .int .i64 s2, .int .i64 g2, .int .i64 p2] 43) b1 ll1)
      have ll1' : b1 < (w0.alloc (Obj.cells #[.int .i64 k2, .int .i64 s2, .int .i64 g2, .int .i64 p2] 43)).heap.size := by simp; omega
      have nn41 : w0.heap.size ≠ b1 := by omega
      have hh6' := there_block hh6 (Below.heap_alloc w0 (Obj.cells #[.int .i64 k2, .int .i64 s2, .int .i64 g2, .int .i64 p2] 43) b6 ll6)
      have ll6' : b6 < (w0.alloc (Obj.cells #[.int .i64 k2, .int .i64 s2, .int .i64 g2, .int .i64 p2] 43)).heap.size := by simp; omega
      have nn46 : w0.heap.size ≠ b6 := by omega
      clear hS hh7 ll7 hh1 ll1 hh6 ll6
      have hh7 := hh7'
      have ll7 := ll7'
      clear hh7' ll7'
      have hh1 := hh1'
      have ll1 := ll1'
      clear hh1' ll1'
      have hh6 := hh6'
      have ll6 := ll6'
      clear hh6' ll6'
      have hS := hS2
      clear hS2
      generalize w0.alloc (Obj.cells #[.int .i64 k2, .int .i64 s2, .int .i64 g2, .int .i64 p2] 43) = w1 at *
      generalize w0.heap.size = b4 at *
      try clear w0
      obtain ⟨w0, rfl⟩ : ∃ x, x = w1 := ⟨_, rfl⟩
      refine wpAnyH_take (i := 5) (v := ?_) rfl (by kernel_rfl) (by kernel_rfl) (by kernel_rfl) (hQp 14 _) (Or.inl ⟨by rfl, ?_⟩) hS ?_
      rotate_left 1
      · intro w hw; refine build_run _ _ 13 b4 _ ?_ ?_ <;> rfl
      try simp only [Act.put, List.setIfInBounds_toArray, List.set_cons_zero, List.set_cons_succ]
      refine wpAnyH_ready (rs := [8]) (by kernel_rfl) (by simp) ?_
      refine AllReadyH.cons rfl (fun K hK => ?_) AllReadyH.nil
      ·
       rw [if_pos (by rfl)]
       refine wp_store_mid 28 _ _ rfl b6 0 (entL 0 (.slice (some ⟨b1, 0, none⟩) 1 1) (fun _ => 0)).toArray rfl rfl (by rw [List.size_toArray, entL_len]; exact hh6) (by rw [List.size_toArray]; exact size_ent _ _ _) (entL_one _ _ _ _ _) ?_
       rw [show (entL 0 (.slice (some ⟨b1, 0, none⟩) 1 1) (fun _ => 0)).toArray.toList = (entL 0 (.slice (some ⟨b1, 0, none⟩) 1 1) (fun _ => 0)) from rfl]
       have hS2 := hS.store b6 gg6 (entL 0 (.slice (some ⟨b1, 0, none⟩) 1 1) (fun _ => 0))
       refine hK.out _ _ hS2 (fun _ => ?_)
       clear hK K
       try simp only [Act.put, List.setIfInBounds_toArray, List.set_cons_zero, List.set_cons_succ]
       have mm6 := entAt_stored hh6 0 (.slice (some ⟨b1, 0, none⟩) 1 1) (fun _ => 0)
       have hh1' := hh1.block (setCells_other b6 b1 (by omega) (entL 0 (.slice (some ⟨b1, 0, none⟩) 1 1) (fun _ => 0)) 0 w0)
       have hh4' := hh4.block (setCells_other b6 b4 (by omega) (entL 0 (.slice (some ⟨b1, 0, none⟩) 1 1) (fun _ => 0)) 0 w0)
       have hh7' := there_block hh7 (setCells_other b6 b7 (by omega) (entL 0 (.slice (some ⟨b1, 0, none⟩) 1 1) (fun _ => 0)) 0 w0)
       have ll1' : b1 < (w0.setCells b6 0 (entL 0 (.slice (some ⟨b1, 0, none⟩) 1 1) (fun _ => 0))).heap.size := by rw [setCells_size]; exact ll1
       have ll4' : b4 < (w0.setCells b6 0 (entL 0 (.slice (some ⟨b1, 0, none⟩) 1 1) (fun _ => 0))).heap.size := by rw [setCells_size]; exact ll4
       have ll6' : b6 < (w0.setCells b6 0 (entL 0 (.slice (some ⟨b1, 0, none⟩) 1 1) (fun _ => 0))).heap.size := by rw [setCells_size]; exact ll6
       have ll7' : b7 < (w0.setCells b6 0 (entL 0 (.slice (some ⟨b1, 0, none⟩) 1 1) (fun _ => 0))).heap.size := by rw [setCells_size]; exact ll7
       clear hS hh6 hh1 hh4 hh7 ll1 ll4 ll6 ll7
       have hh1 := hh1'
       clear hh1'
       have hh4 := hh4'
       clear hh4'
       have hh7 := hh7'
       clear hh7'
       have ll1 := ll1'
       clear ll1'
       have ll4 := ll4'
       clear ll4'
       have ll6 := ll6'
       clear ll6'
       have ll7 := ll7'
       clear ll7'
       have hS := hS2
       clear hS2
       generalize w0.setCells b6 0 (entL 0 (.slice (some ⟨b1, 0, none⟩) 1 1) (fun _ => 0)) = w1 at *
       try clear w0
       obtain ⟨w0, rfl⟩ : ∃ x, x = w1 := ⟨_, rfl⟩
       refine wpAnyH_ready (rs := [9]) (by kernel_rfl) (by simp) ?_
       refine AllReadyH.cons rfl (fun K hK => ?_) AllReadyH.nil
       ·
        rw [if_pos (by rfl)]
        refine wp_store_mid 28 _ _ rfl b7 0 (entL 0 (.slice (some ⟨b4, 0, none⟩) 1 1) (fun _ => 0)).toArray rfl rfl (by rw [List.size_toArray, entL_len]; exact hh7) (by rw [List.size_toArray]; exact size_ent _ _ _) (entL_one _ _ _ _ _) ?_
        rw [show (entL 0 (.slice (some ⟨b4, 0, none⟩) 1 1) (fun _ => 0)).toArray.toList = (entL 0 (.slice (some ⟨b4, 0, none⟩) 1 1) (fun _ => 0)) from rfl]
        have hS2 := hS.store b7 gg7 (entL 0 (.slice (some ⟨b4, 0, none⟩) 1 1) (fun _ => 0))
        refine hK.out _ _ hS2 (fun _ => ?_)
        clear hK K
        try simp only [Act.put, List.setIfInBounds_toArray, List.set_cons_zero, List.set_cons_succ]
        have mm7 := entAt_stored hh7 0 (.slice (some ⟨b4, 0, none⟩) 1 1) (fun _ => 0)
        have hh1' := hh1.block (setCells_other b7 b1 (by omega) (entL 0 (.slice (some ⟨b4, 0, none⟩) 1 1) (fun _ => 0)) 0 w0)
        have hh4' := hh4.block (setCells_other b7 b4 (by omega) (entL 0 (.slice (some ⟨b4, 0, none⟩) 1 1) (fun _ => 0)) 0 w0)
        have mm6' := mm6.block (setCells_other b7 b6 (by omega) (entL 0 (.slice (some ⟨b4, 0, none⟩) 1 1) (fun _ => 0)) 0 w0)
        have ll1' : b1 < (w0.setCells b7 0 (entL 0 (.slice (some ⟨b4, 0, none⟩) 1 1) (fun _ => 0))).heap.size := by rw [setCells_size]; exact ll1
        have ll4' : b4 < (w0.setCells b7 0 (entL 0 (.slice (some ⟨b4, 0, none⟩) 1 1) (fun _ => 0))).heap.size := by rw [setCells_size]; exact ll4
        have ll6' : b6 < (w0.setCells b7 0 (entL 0 (.slice (some ⟨b4, 0, none⟩) 1 1) (fun _ => 0))).heap.size := by rw [setCells_size]; exact ll6
        have ll7' : b7 < (w0.setCells b7 0 (entL 0 (.slice (some ⟨b4, 0, none⟩) 1 1) (fun _ => 0))).heap.size := by rw [setCells_size]; exact ll7
        clear hS hh7 hh1 hh4 mm6 ll1 ll4 ll6 ll7
        have hh1 := hh1'
        clear hh1'
        have hh4 := hh4'
        clear hh4'
        have mm6 := mm6'
        clear mm6'
        have ll1 := ll1'
        clear ll1'
        have ll4 := ll4'
        clear ll4'
        have ll6 := ll6'
        clear ll6'
        have ll7 := ll7'
        clear ll7'
        have hS := hS2
        clear hS2
        generalize w0.setCells b7 0 (entL 0 (.slice (some ⟨b4, 0, none⟩) 1 1) (fun _ => 0)) = w1 at *
        try clear w0
        obtain ⟨w0, rfl⟩ : ∃ x, x = w1 := ⟨_, rfl⟩
        refine wpAnyH_done (by kernel_rfl) ?_ _
        exact hQn _ _ _ _ _ _ b1 b4 b6 b7 w0 hh1 hh4 mm6 mm7 hS
     ·
      rw [if_pos (by rfl)]
      refine wp_store_mid 28 _ _ rfl b6 0 (entL 0 (.slice (some ⟨b1, 0, none⟩) 1 1) (fun _ => 0)).toArray rfl rfl (by rw [List.size_toArray, entL_len]; exact hh6) (by rw [List.size_toArray]; exact size_ent _ _ _) (entL_one _ _ _ _ _) ?_
      rw [show (entL 0 (.slice (some ⟨b1, 0, none⟩) 1 1) (fun _ => 0)).toArray.toList = (entL 0 (.slice (some ⟨b1, 0, none⟩) 1 1) (fun _ => 0)) from rfl]
      have hS2 := hS.store b6 gg6 (entL 0 (.slice (some ⟨b1, 0, none⟩) 1 1) (fun _ => 0))
      refine hK.out _ _ hS2 (fun _ => ?_)
      clear hK K
      try simp only [Act.put, List.setIfInBounds_toArray, List.set_cons_zero, List.set_cons_succ]
      have mm6 := entAt_stored hh6 0 (.slice (some ⟨b1, 0, none⟩) 1 1) (fun _ => 0)
      have hh1' := hh1.block (setCells_other b6 b1 (by omega) (entL 0 (.slice (some ⟨b1, 0, none⟩) 1 1) (fun _ => 0)) 0 w0)
      have hh7' := there_block hh7 (setCells_other b6 b7 (by omega) (entL 0 (.slice (some ⟨b1, 0, none⟩) 1 1) (fun _ => 0)) 0 w0)
      have ll1' : b1 < (w0.setCells b6 0 (entL 0 (.slice (some ⟨b1, 0, none⟩) 1 1) (fun _ => 0))).heap.size := by rw [setCells_size]; exact ll1
      have ll6' : b6 < (w0.setCells b6 0 (entL 0 (.slice (some ⟨b1, 0, none⟩) 1 1) (fun _ => 0))).heap.size := by rw [setCells_size]; exact ll6
      have ll7' : b7 < (w0.setCells b6 0 (entL 0 (.slice (some ⟨b1, 0, none⟩) 1 1) (fun _ => 0))).heap.size := by rw [setCells_size]; exact ll7
      clear hS hh6 hh1 hh7 ll1 ll6 ll7
      have hh1 := hh1'
      clear hh1'
      have hh7 := hh7'
      clear hh7'
      have ll1 := ll1'
      clear ll1'
      have ll6 := ll6'
      clear ll6'
      have ll7 := ll7'
      clear ll7'
      have hS := hS2
      clear hS2
      generalize w0.setCells b6 0 (entL 0 (.slice (some ⟨b1, 0, none⟩) 1 1) (fun _ => 0)) = w1 at *
      try clear w0
      obtain ⟨w0, rfl⟩ : ∃ x, x = w1 := ⟨_, rfl⟩
      refine wpAnyH_ready (rs := [4]) (by kernel_rfl) (by simp) ?_
      refine AllReadyH.cons rfl (fun K hK => ?_) AllReadyH.nil
      ·
       go_simp
       refine hK.out _ _ ?_ (fun _ => ?_)
       · exact hS.alloc (Obj.cells #[.int .i64 k2, .int .i64 s2, .int .i64 g2, .int .i64 p2] 43)
       clear hK K
       try simp only [Act.put, List.setIfInBounds_toArray, List.set_cons_zero, List.set_cons_succ]
       have hS2 := hS.alloc (Obj.cells #[.int .i64 k2, .int .i64 s2, .int .i64 g2, .int .i64 p2] 43)
       have gg4 := hS.sz
       have hh4 := evsAt_box k2 s2 g2 p2 w0
       have ll4 : w0.heap.size < (w0.alloc (Obj.cells #[.int .i64 k2, .int .i64 s2, .int .i64 g2, .int .i64 p2] 43)).heap.size := by simp
       have hh7' := there_block hh7 (Below.heap_alloc w0 (Obj.cells #[.int .i64 k2, .int .i64 s2, .int .i64 g2, .int .i64 p2] 43) b7 ll7)
       have ll7' : b7 < (w0.alloc (Obj.cells #[.int .i64 k2, .int .i64 s2, .int .i64 g2, .int .i64 p2] 43)).heap.size := by simp; omega
       have nn47 : w0.heap.size ≠ b7 := by omega
       have hh1' := hh1.block (Below.heap_alloc w0 (Obj.cells #[.int .i64 k2, .int .i64 s2, .int .i64 g2, .int .i64 p2] 43) b1 ll1)
       have ll1' : b1 < (w0.alloc (Obj.cells #[.int .i64 k2, .int .i64 s2, .int .i64 g2, .int .i64 p2] 43)).heap.size := by simp; omega
       have nn41 : w0.heap.size ≠ b1 := by omega
       have mm6' := mm6.block (Below.heap_alloc w0 (Obj.cells #[.int .i64 k2, .int .i64 s2, .int .i64 g2, .int .i64 p2] 43) b6 ll6)
       have ll6' : b6 < (w0.alloc (Obj.cells #[.int .i64 k2, .int .i64 s2, .int .i64 g2, .int .i64 p2] 43)).heap.size := by simp; omega
       have nn46 : w0.heap.size ≠ b6 := by omega
       clear hS hh7 ll7 hh1 ll1 mm6 ll6
       have hh7 := hh7'
       have ll7 := ll7'
       clear hh7' ll7'
       have hh1 := hh1'
       have ll1 := ll1'
       clear hh1' ll1'
       have mm6 := mm6'
       have ll6 := ll6'
       clear mm6' ll6'
       have hS := hS2
       clear hS2
       generalize w0.alloc (Obj.cells #[.int .i64 k2, .int .i64 s2, .int .i64 g2, .int .i64 p2] 43) = w1 at *
       generalize w0.heap.size = b4 at *
       try clear w0
       obtain ⟨w0, rfl⟩ : ∃ x, x = w1 := ⟨_, rfl⟩
       refine wpAnyH_take (i := 5) (v := ?_) rfl (by kernel_rfl) (by kernel_rfl) (by kernel_rfl) (hQp 14 _) (Or.inl ⟨by rfl, ?_⟩) hS ?_
       rotate_left 1
       · intro w hw; refine build_run _ _ 13 b4 _ ?_ ?_ <;> rfl
       try simp only [Act.put, List.setIfInBounds_toArray, List.set_cons_zero, List.set_cons_succ]
       refine wpAnyH_ready (rs := [9]) (by kernel_rfl) (by simp) ?_
       refine AllReadyH.cons rfl (fun K hK => ?_) AllReadyH.nil
       ·
        rw [if_pos (by rfl)]
        refine wp_store_mid 28 _ _ rfl b7 0 (entL 0 (.slice (some ⟨b4, 0, none⟩) 1 1) (fun _ => 0)).toArray rfl rfl (by rw [List.size_toArray, entL_len]; exact hh7) (by rw [List.size_toArray]; exact size_ent _ _ _) (entL_one _ _ _ _ _) ?_
        rw [show (entL 0 (.slice (some ⟨b4, 0, none⟩) 1 1) (fun _ => 0)).toArray.toList = (entL 0 (.slice (some ⟨b4, 0, none⟩) 1 1) (fun _ => 0)) from rfl]
        have hS2 := hS.store b7 gg7 (entL 0 (.slice (some ⟨b4, 0, none⟩) 1 1) (fun _ => 0))
        refine hK.out _ _ hS2 (fun _ => ?_)
        clear hK K
        try simp only [Act.put, List.setIfInBounds_toArray, List.set_cons_zero, List.set_cons_succ]
        have mm7 := entAt_stored hh7 0 (.slice (some ⟨b4, 0, none⟩) 1 1) (fun _ => 0)
        have hh1' := hh1.block (setCells_other b7 b1 (by omega) (entL 0 (.slice (some ⟨b4, 0, none⟩) 1 1) (fun _ => 0)) 0 w0)
        have hh4' := hh4.block (setCells_other b7 b4 (by omega) (entL 0 (.slice (some ⟨b4, 0, none⟩) 1 1) (fun _ => 0)) 0 w0)
        have mm6' := mm6.block (setCells_other b7 b6 (by omega) (entL 0 (.slice (some ⟨b4, 0, none⟩) 1 1) (fun _ => 0)) 0 w0)
        have ll1' : b1 < (w0.setCells b7 0 (entL 0 (.slice (some ⟨b4, 0, none⟩) 1 1) (fun _ => 0))).heap.size := by rw [setCells_size]; exact ll1
        have ll4' : b4 < (w0.setCells b7 0 (entL 0 (.slice (some ⟨b4, 0, none⟩) 1 1) (fun _ => 0))).heap.size := by rw [setCells_size]; exact ll4
        have ll6' : b6 < (w0.setCells b7 0 (entL 0 (.slice (some ⟨b4, 0, none⟩) 1 1) (fun _ => 0))).heap.size := by rw [setCells_size]; exact ll6
        have ll7' : b7 < (w0.setCells b7 0 (entL 0 (.slice (some ⟨b4, 0, none⟩) 1 1) (fun _ => 0))).heap.size := by rw [setCells_size]; exact ll7
        clear hS hh7 hh1 hh4 mm6 ll1 ll4 ll6 ll7
        have hh1 := hh1'
        clear hh1'
        have hh4 := hh4'
        clear hh4'
        have mm6 := mm6'
        clear mm6'
        have ll1 := ll1'
        clear ll1'
        have ll4 := ll4'
        clear ll4'
        have ll6 := ll6'
        clear ll6'
        have ll7 := ll7'
        clear ll7'
        have hS := hS2
        clear hS2
        generalize w0.setCells b7 0 (entL 0 (.slice (some ⟨b4, 0, none⟩) 1 1) (fun _ => 0)) = w1 at *
        try clear w0
        obtain ⟨w0, rfl⟩ : ∃ x, x = w1 := ⟨_, rfl⟩
        refine wpAnyH_done (by kernel_rfl) ?_ _
        exact hQn _ _ _ _ _ _ b1 b4 b6 b7 w0 hh1 hh4 mm6 mm7 hS
   ·
    go_simp
    refine hK.out _ _ ?_ (fun _ => ?_)
    · exact hS.alloc (Obj.cells #[.int .i64 k2, .int .i64 s2, .int .i64 g2, .int .i64 p2] 43)
    clear hK K
    try simp only [Act.put, List.setIfInBounds_toArray, List.set_cons_zero, List.set_cons_succ]
    have hS2 := hS.alloc (Obj.cells #[.int .i64 k2, .int .i64 s2, .int .i64 g2, .int .i64 p2] 43)
    have gg4 := hS.sz
    have hh4 := evsAt_box k2 s2 g2 p2 w0
    have ll4 : w0.heap.size < (w0.alloc (Obj.cells #[.int .i64 k2, .int .i64 s2, .int .i64 g2, .int .i64 p2] 43)).heap.size := by simp
    have hh7' := there_block hh7 (Below.heap_alloc w0 (Obj.cells #[.int .i64 k2, .int .i64 s2, .int .i64 g2, .int .i64 p2] 43) b7 ll7)
    have ll7' : b7 < (w0.alloc (Obj.cells #[.int .i64 k2, .int .i64 s2, .int .i64 g2, .int .i64 p2] 43)).heap.size := by simp; omega
    have nn47 : w0.heap.size ≠ b7 := by omega
    clear hS hh7 ll7
    have hh7 := hh7'
    have ll7 := ll7'
    clear hh7' ll7'
    have hS := hS2
    clear hS2
    generalize w0.alloc (Obj.cells #[.int .i64 k2, .int .i64 s2, .int .i64 g2, .int .i64 p2] 43) = w1 at *
    generalize w0.heap.size = b4 at *
    try clear w0
    obtain ⟨w0, rfl⟩ : ∃ x, x = w1 := ⟨_, rfl⟩
    refine wpAnyH_take (i := 5) (v := ?_) rfl (by kernel_rfl) (by kernel_rfl) (by kernel_rfl) (hQp 14 _) (Or.inl ⟨by rfl, ?_⟩) hS ?_
    rotate_left 1
    · intro w hw; refine build_run _ _ 13 b4 _ ?_ ?_ <;> rfl
    try simp only [Act.put, List.setIfInBounds_toArray, List.set_cons_zero, List.set_cons_succ]
    refine wpAnyH_ready (rs := [1, 6]) (by kernel_rfl) (by simp) ?_
    refine AllReadyH.cons rfl (fun K hK => ?_) (AllReadyH.cons rfl (fun K hK => ?_) AllReadyH.nil)
    ·
     go_simp
     refine hK.out _ _ ?_ (fun _ => ?_)
     · exact hS.alloc (Obj.cells #[.int .i64 k1, .int .i64 s1, .int .i64 g1, .int .i64 p1] 43)
     clear hK K
     try simp only [Act.put, List.setIfInBounds_toArray, List.set_cons_zero, List.set_cons_succ]
     have hS2 := hS.alloc (Obj.cells #[.int .i64 k1, .int .i64 s1, .int .i64 g1, .int .i64 p1] 43)
     have gg1 := hS.sz
     have hh1 := evsAt_box k1 s1 g1 p1 w0
     have ll1 : w0.heap.size < (w0.alloc (Obj.cells #[.int .i64 k1, .int .i64 s1, .int .i64 g1, .int .i64 p1] 43)).heap.size := by simp
     have hh7' := there_block hh7 (Below.heap_alloc w0 (Obj.cells #[.int .i64 k1, .int .i64 s1, .int .i64 g1, .int .i64 p1] 43) b7 ll7)
     have ll7' : b7 < (w0.alloc (Obj.cells #[.int .i64 k1, .int .i64 s1, .int .i64 g1, .int .i64 p1] 43)).heap.size := by simp; omega
     have nn17 : w0.heap.size ≠ b7 := by omega
     have hh4' := hh4.block (Below.heap_alloc w0 (Obj.cells #[.int .i64 k1, .int .i64 s1, .int .i64 g1, .int .i64 p1] 43) b4 ll4)
     have ll4' : b4 < (w0.alloc (Obj.cells #[.int .i64 k1, .int .i64 s1, .int .i64 g1, .int .i64 p1] 43)).heap.size := by simp; omega
     have nn14 : w0.heap.size ≠ b4 := by omega
     clear hS hh7 ll7 hh4 ll4
     have hh7 := hh7'
     have ll7 := ll7'
     clear hh7' ll7'
     have hh4 := hh4'
     have ll4 := ll4'
     clear hh4' ll4'
     have hS := hS2
     clear hS2
     generalize w0.alloc (Obj.cells #[.int .i64 k1, .int .i64 s1, .int .i64 g1, .int .i64 p1] 43) = w1 at *
     generalize w0.heap.size = b1 at *
     try clear w0
     obtain ⟨w0, rfl⟩ : ∃ x, x = w1 := ⟨_, rfl⟩
     refine wpAnyH_take (i := 2) (v := ?_) rfl (by kernel_rfl) (by kernel_rfl) (by kernel_rfl) (hQp 11 _) (Or.inl ⟨by rfl, ?_⟩) hS ?_
     rotate_left 1
     · intro w hw; refine build_run _ _ 10 b1 _ ?_ ?_ <;> rfl
     try simp only [Act.put, List.setIfInBounds_toArray, List.set_cons_zero, List.set_cons_succ]
     refine wpAnyH_ready (rs := [6]) (by kernel_rfl) (by simp) ?_
     refine AllReadyH.cons rfl (fun K hK => ?_) AllReadyH.nil
     ·
      go_simp
      refine hK.out _ _ ?_ (fun _ => ?_)
      · exact hS.alloc (Obj.cells (entL 0 (.slice none 0 0) (fun _ => 0)).toArray 28)
      clear hK K
      try simp only [Act.put, List.setIfInBounds_toArray, List.set_cons_zero, List.set_cons_succ]
      have hS2 := hS.alloc (Obj.cells (entL 0 (.slice none 0 0) (fun _ => 0)).toArray 28)
      have gg6 := hS.sz
      have hh6 := there_box w0
      have ll6 : w0.heap.size < (w0.alloc (Obj.cells (entL 0 (.slice none 0 0) (fun _ => 0)).toArray 28)).heap.size := by simp
      have hh7' := there_block hh7 (Below.heap_alloc w0 (Obj.cells (entL 0 (.slice none 0 0) (fun _ => 0)).toArray 28) b7 ll7)
      have ll7' : b7 < (w0.alloc (Obj.cells (entL 0 (.slice none 0 0) (fun _ => 0)).toArray 28)).heap.size := by simp; omega
      have nn67 : w0.heap.size ≠ b7 := by omega
      have hh4' := hh4.block (Below.heap_alloc w0 (Obj.cells (entL 0 (.slice none 0 0) (fun _ => 0)).toArray 28) b4 ll4)
      have ll4' : b4 < (w0.alloc (Obj.cells (entL 0 (.slice none 0 0) (fun _ => 0)).toArray 28)).heap.size := by simp; omega
      have nn64 : w0.heap.size ≠ b4 := by omega
      have hh1' := hh1.block (Below.heap_alloc w0 (Obj.cells (entL 0 (.slice none 0 0) (fun _ => 0)).toArray 28) b1 ll1)
      have ll1' : b1 < (w0.alloc (Obj.cells (entL 0 (.slice none 0 0) (fun _ => 0)).toArray 28)).heap.size := by simp; omega
      have nn61 : w0.heap.size ≠ b1 := by omega
      clear hS hh7 ll7 hh4 ll4 hh1 ll1
      have hh7 := hh7'
      have ll7 := ll7'
      clear hh7' ll7'
      have hh4 := hh4'
      have ll4 := ll4'
      clear hh4' ll4'
      have hh1 := hh1'
      have ll1 := ll1'
      clear hh1' ll1'
      have hS := hS2
      clear hS2
      generalize w0.alloc (Obj.cells (entL 0 (.slice none 0 0) (fun _ => 0)).toArray 28) = w1 at *
      generalize w0.heap.size = b6 at *
      try clear w0
      obtain ⟨w0, rfl⟩ : ∃ x, x = w1 := ⟨_, rfl⟩
      refine wpAnyH_ready (rs := [8]) (by kernel_rfl) (by simp) ?_
      refine AllReadyH.cons rfl (fun K hK => ?_) AllReadyH.nil
      ·
       rw [if_pos (by rfl)]
       refine wp_store_mid 28 _ _ rfl b6 0 (entL 0 (.slice (some ⟨b1, 0, none⟩) 1 1) (fun _ => 0)).toArray rfl rfl (by rw [List.size_toArray, entL_len]; exact hh6) (by rw [List.size_toArray]; exact size_ent _ _ _) (entL_one _ _ _ _ _) ?_
       rw [show (entL 0 (.slice (some ⟨b1, 0, none⟩) 1 1) (fun _ => 0)).toArray.toList = (entL 0 (.slice (some ⟨b1, 0, none⟩) 1 1) (fun _ => 0)) from rfl]
       have hS2 := hS.store b6 gg6 (entL 0 (.slice (some ⟨b1, 0, none⟩) 1 1) (fun _ => 0))
       refine hK.out _ _ hS2 (fun _ => ?_)
       clear hK K
       try simp only [Act.put, List.setIfInBounds_toArray, List.set_cons_zero, List.set_cons_succ]
       have mm6 := entAt_stored hh6 0 (.slice (some ⟨b1, 0, none⟩) 1 1) (fun _ => 0)
       have hh1' := hh1.block (setCells_other b6 b1 (by omega) (entL 0 (.slice (some ⟨b1, 0, none⟩) 1 1) (fun _ => 0)) 0 w0)
       have hh4' := hh4.block (setCells_other b6 b4 (by omega) (entL 0 (.slice (some ⟨b1, 0, none⟩) 1 1) (fun _ => 0)) 0 w0)
       have hh7' := there_block hh7 (setCells_other b6 b7 (by omega) (entL 0 (.slice (some ⟨b1, 0, none⟩) 1 1) (fun _ => 0)) 0 w0)
       have ll1' : b1 < (w0.setCells b6 0 (entL 0 (.slice (some ⟨b1, 0, none⟩) 1 1) (fun _ => 0))).heap.size := by rw [setCells_size]; exact ll1
       have ll4' : b4 < (w0.setCells b6 0 (entL 0 (.slice (some ⟨b1, 0, none⟩) 1 1) (fun _ => 0))).heap.size := by rw [setCells_size]; exact ll4
       have ll6' : b6 < (w0.setCells b6 0 (entL 0 (.slice (some ⟨b1, 0, none⟩) 1 1) (fun _ => 0))).heap.size := by rw [setCells_size]; exact ll6
       have ll7' : b7 < (w0.setCells b6 0 (entL 0 (.slice (some ⟨b1, 0, none⟩) 1 1) (fun _ => 0))).heap.size := by rw [setCells_size]; exact ll7
       clear hS hh6 hh1 hh4 hh7 ll1 ll4 ll6 ll7
       have hh1 := hh1'
       clear hh1'
       have hh4 := hh4'
       clear hh4'
       have hh7 := hh7'
       clear hh7'
       have ll1 := ll1'
       clear ll1'
       have ll4 := ll4'
       clear ll4'
       have ll6 := ll6'
       clear ll6'
       have ll7 := ll7'
       clear ll7'
       have hS := hS2
       clear hS2
       generalize w0.setCells b6 0 (entL 0 (.slice (some ⟨b1, 0, none⟩) 1 1) (fun _ => 0)) = w1 at *
       try clear w0
       obtain ⟨w0, rfl⟩ : ∃ x, x = w1 := ⟨_, rfl⟩
       refine wpAnyH_ready (rs := [9]) (by kernel_rfl) (by simp) ?_
       refine AllReadyH.cons rfl (fun K hK => ?_) AllReadyH.nil
       ·
        rw [if_pos (by rfl)]
        refine wp_store_mid 28 _ _ rfl b7 0 (entL 0 (.slice (some ⟨b4, 0, none⟩) 1 1) (fun _ => 0)).toArray rfl rfl (by rw [List.size_toArray, entL_len]; exact hh7) (by rw [List.size_toArray]; exact size_ent _ _ _) (entL_one _ _ _ _ _) ?_
        rw [show (entL 0 (.slice (some ⟨b4, 0, none⟩) 1 1) (fun _ => 0)).toArray.toList = (entL 0 (.slice (some ⟨b4, 0, none⟩) 1 1) (fun _ => 0)) from rfl]
        have hS2 := hS.store b7 gg7 (entL 0 (.slice (some ⟨b4, 0, none⟩) 1 1) (fun _ => 0))
        refine hK.out _ _ hS2 (fun _ => ?_)
        clear hK K
        try simp only [Act.put, List.setIfInBounds_toArray, List.set_cons_zero, List.set_cons_succ]
        have mm7 := entAt_stored hh7 0 (.slice (some ⟨b4, 0, none⟩) 1 1) (fun _ => 0)
        have hh1' := hh1.block (setCells_other b7 b1 (by omega) (entL 0 (.slice (some ⟨b4, 0, none⟩) 1 1) (fun _ => 0)) 0 w0)
        have hh4' := hh4.block (setCells_other b7 b4 (by omega) (entL 0 (.slice (some ⟨b4, 0, none⟩) 1 1) (fun _ => 0)) 0 w0)
        have mm6' := mm6.block (setCells_other b7 b6 (by omega) (entL 0 (.slice (some ⟨b4, 0, none⟩) 1 1) (fun _ => 0)) 0 w0)
        have ll1' : b1 < (w0.setCells b7 0 (entL 0 (.slice (some ⟨b4, 0, none⟩) 1 1) (fun _ => 0))).heap.size := by rw [setCells_size]; exact ll1
        have ll4' : b4 < (w0.setCells b7 0 (entL 0 (.slice (some ⟨b4, 0, none⟩) 1 1) (fun _ => 0))).heap.size := by rw [setCells_size]; exact ll4
        have ll6' : b6 < (w0.setCells b7 0 (entL 0 (.slice (some ⟨b4, 0, none⟩) 1 1) (fun _ => 0))).heap.size := by rw [setCells_size]; exact ll6
        have ll7' : b7 < (w0.setCells b7 0 (entL 0 (.slice (some ⟨b4, 0, none⟩) 1 1) (fun _ => 0))).heap.size := by rw [setCells_size]; exact ll7
        clear hS hh7 hh1 hh4 mm6 ll1 ll4 ll6 ll7
        have hh1 := hh1'
        clear hh1'
        have hh4 := hh4'
        clear hh4'
        have mm6 := mm6'
        clear mm6'
        have ll1 := ll1'
        clear ll1'
        have ll4 := ll4'
        clear ll4'
        have ll6 := ll6'
        clear ll6'
        have ll7 := ll7'
        clear ll7'
        have hS := hS2
        clear hS2
        generalize w0.setCells b7 0 (entL 0 (.slice (some ⟨b4, 0, none⟩) 1 1) (fun _ => 0)) = w1 at *
        try clear w0
        obtain ⟨w0, rfl⟩ : ∃ x, x = w1 := ⟨_, rfl⟩
        refine wpAnyH_done (by kernel_rfl) ?_ _
        exact hQn _ _ _ _ _ _ b1 b4 b6 b7 w0 hh1 hh4 mm6 mm7 hS
    ·
     go_simp
     refine hK.out _ _ ?_ (fun _ => ?_)
     · exact hS.alloc (Obj.cells (entL 0 (.slice none 0 0) (fun _ => 0)).toArray 28)
     clear hK K
     try simp only [Act.put, List.setIfInBounds_toArray, List.set_cons_zero, List.set_cons_succ]
     have hS2 := hS.alloc (Obj.cells (entL 0 (.slice none 0 0) (fun _ => 0)).toArray 28)
     have gg6 := hS.sz
     have hh6 := there_box w0
     have ll6 : w0.heap.size < (w0.alloc (Obj.cells (entL 0 (.slice none 0 0) (fun _ => 0)).toArray 28)).heap.size := by simp
     have hh7' := there_block hh7 (Below.heap_alloc w0 (Obj.cells (entL 0 (.slice none 0 0) (fun _ => 0)).toArray 28) b7 ll7)
     have ll7' : b7 < (w0.alloc (Obj.cells (entL 0 (.slice none 0 0) (fun _ => 0)).toArray 28)).heap.size := by simp; omega
     have nn67 : w0.heap.size ≠ b7 := by omega
     have hh4' := hh4.block (Below.heap_alloc w0 (Obj.cells (entL 0 (.slice none 0 0) (fun _ => 0)).toArray 28) b4 ll4)
     have ll4' : b4 < (w0.alloc (Obj.cells (entL 0 (.slice none 0 0) (fun _ => 0)).toArray 28)).heap.size := by simp; omega
     have nn64 : w0.heap.size ≠ b4 := by omega
     clear hS hh7 ll7 hh4 ll4
     have hh7 := hh7'
     have ll7 := ll7'
     clear hh7' ll7'
     have hh4 := hh4'
     have ll4 := ll4'
     clear hh4' ll4'
     have hS := hS2
     clear hS2
     generalize w0.alloc (Obj.cells (entL 0 (.slice none 0 0) (fun _ => 0)).toArray 28) = w1 at *
     generalize w0.heap.size = b6 at *
     try clear w0
     obtain ⟨w0, rfl⟩ : ∃ x, x = w1 := ⟨_, rfl⟩
     refine wpAnyH_ready (rs := [1]) (by kernel_rfl) (by simp) ?_
     refine AllReadyH.cons rfl (fun K hK => ?_) AllReadyH.nil
     ·
      go_simp
      refine hK.out _ _ ?_ (fun _ => ?_)
      · exact hS.alloc (Obj.cells #[.int .i64 k1, .int .i64 s1, .int .i64 g1, .int .i64 p1] 43)
      clear hK K
      try simp only [Act.put, List.setIfInBounds_toArray, List.set_cons_zero, List.set_cons_succ]
      have hS2 := hS.alloc (Obj.cells #[.int .i64 k1, .int .i64 s1, .int .i64 g1, .int .i64 p1] 43)
      have gg1 := hS.sz
      have hh1 := evsAt_box k1 s1 g1 p1 w0
      have ll1 : w0.heap.size < (w0.alloc (Obj.cells #[.int .i64 k1, .int .i64 s1, .int .i64 g1, .int .i64 p1] 43)).heap.size := by simp
      have hh7' := there_block hh7 (Below.heap_alloc w0 (Obj.cells #[.int .i64 k1, .int .i64 s1, .int .i64 g1, .int .i64 p1] 43) b7 ll7)
      have ll7' : b7 < (w0.alloc (Obj.cells #[.int .i64 k1, .int .i64 s1, .int .i64 g1, .int .i64 p1] 43)).heap.size := by simp; omega
      have nn17 : w0.heap.size ≠ b7 := by omega
      have hh4' := hh4.block (Below.heap_alloc w0 (Obj.cells #[.int .i64 k1, .int .i64 s1, .int .i64 g1, .int .i64 p1] 43) b4 ll4)
      have ll4' : b4 < (w0.alloc (Obj.cells #[.int .i64 k1, .int .i64 s1, .int .i64 g1, .int .i64 p1] 43)).heap.size := by simp; omega
      have nn14 : w0.heap.size ≠ b4 := by omega
      have hh6' := there_block hh6 (Below.heap_alloc w0 (Obj.cells #[.int .i64 k1, .int .i64 s1, .int .i64 g1, .int .i64 p1] 43) b6 ll6)
      have ll6' : b6 < (w0.alloc (Obj.cells #[.int .i64 k1, .int .i64 s1, .int .i64 g1, .int .i64 p1] 43)).heap.size := by simp; omega
      have nn16 : w0.heap.size ≠ b6 := by omega
      clear hS hh7 ll7 hh4 ll4 hh6 ll6
      have hh7 := hh7'
      have ll7 := ll7'
      clear hh7' ll7'
      have hh4 := hh4'
      have ll4 := ll4'
      clear hh4' ll4'
      have hh6 := hh6'
      have ll6 := ll6'
      clear hh6' ll6'
      have hS := hS2
      clear hS2
      generalize w0.alloc (Obj.cells #[.int .i64 k1, .int .i64 s1, .int .i64 g1, .int .i64 p1] 43) = w1 at *
      generalize w0.heap.size = b1 at *
      try clear w0
      obtain ⟨w0, rfl⟩ : ∃ x, x = w1 := ⟨_, rfl⟩
      refine wpAnyH_take (i := 2) (v := ?_) rfl (by kernel_rfl) (by kernel_rfl) (by kernel_rfl) (hQp 11 _) (Or.inl ⟨by rfl, ?_⟩) hS ?_
      rotate_left 1
      · intro w hw; refine build_run _ _ 10 b1 _ ?_ ?_ <;> rfl
      try simp only [Act.put, List.setIfInBounds_toArray, List.set_cons_zero, List.set_cons_succ]
      refine wpAnyH_ready (rs := [8]) (by kernel_rfl) (by simp) ?_
      refine AllReadyH.cons rfl (fun K hK => ?_) AllReadyH.nil
      ·
       rw [if_pos (by rfl)]
       refine wp_store_mid 28 _ _ rfl b6 0 (entL 0 (.slice (some ⟨b1, 0, none⟩) 1 1) (fun _ => 0)).toArray rfl rfl (by rw [List.size_toArray, entL_len]; exact hh6) (by rw [List.size_toArray]; exact size_ent _ _ _) (entL_one _ _ _ _ _) ?_
       rw [show (entL 0 (.slice (some ⟨b1, 0, none⟩) 1 1) (fun _ => 0)).toArray.toList = (entL 0 (.slice (some ⟨b1, 0, none⟩) 1 1) (fun _ => 0)) from rfl]
       have hS2 := hS.store b6 gg6 (entL 0 (.slice (some ⟨b1, 0, none⟩) 1 1) (fun _ => 0))
       refine hK.out _ _ hS2 (fun _ => ?_)
       clear hK K
       try simp only [Act.put, List.setIfInBounds_toArray, List.set_cons_zero, List.set_cons_succ]
       have mm6 := entAt_stored hh6 0 (.slice (some ⟨b1, 0, none⟩) 1 1) (fun _ => 0)
       have hh1' := hh1.block (setCells_other b6 b1 (by omega) (entL 0 (.slice (some ⟨b1, 0, none⟩) 1 1) (fun _ => 0)) 0 w0)
       have hh4' := hh4.block (setCells_other b6 b4 (by omega) (entL 0 (.slice (some ⟨b1, 0, none⟩) 1 1) (fun _ => 0)) 0 w0)
       have hh7' := there_block hh7 (setCells_other b6 b7 (by omega) (entL 0 (.slice (some ⟨b1, 0, none⟩) 1 1) (fun _ => 0)) 0 w0)
       have ll1' : b1 < (w0.setCells b6 0 (entL 0 (.slice (some ⟨b1, 0, none⟩) 1 1) (fun _ => 0))).heap.size := by rw [setCells_size]; exact ll1
       have ll4' : b4 < (w0.setCells b6 0 (entL 0 (.slice (some ⟨b1, 0, none⟩) 1 1) (fun _ => 0))).heap.size := by rw [setCells_size]; exact ll4
       have ll6' : b6 < (w0.setCells b6 0 (entL 0 (.slice (some ⟨b1, 0, none⟩) 1 1) (fun _ => 0))).heap.size := by rw [setCells_size]; exact ll6
       have ll7' : b7 < (w0.setCells b6 0 (entL 0 (.slice (some ⟨b1, 0, none⟩) 1 1) (fun _ => 0))).heap.size := by rw [setCells_size]; exact ll7
       clear hS hh6 hh1 hh4 hh7 ll1 ll4 ll6 ll7
       have hh1 := hh1'
       clear hh1'
       have hh4 := hh4'
       clear hh4'
       have hh7 := hh7'
       clear hh7'
       have ll1 := ll1'
       clear ll1'
       have ll4 := ll4'
       clear ll4'
       have ll6 := ll6'
       clear ll6'
       have ll7 := ll7'
       clear ll7'
       have hS := hS2
       clear hS2
       generalize w0.setCells b6 0 (entL 0 (.slice (some ⟨b1, 0, none⟩) 1 1) (fun _ => 0)) = w1 at *
       try clear w0
       obtain ⟨w0, rfl⟩ : ∃ x, x = w1 := ⟨_, rfl⟩
       refine wpAnyH_ready (rs := [9]) (by kernel_rfl) (by simp) ?_
       refine AllReadyH.cons rfl (fun K hK => ?_) AllReadyH.nil
       ·
        rw [if_pos (by rfl)]
        refine wp_store_mid 28 _ _ rfl b7 0 (entL 0 (.slice (some ⟨b4, 0, none⟩) 1 1) (fun _ => 0)).toArray rfl rfl (by rw [List.size_toArray, entL_len]; exact hh7) (by rw [List.size_toArray]; exact size_ent _ _ _) (entL_one _ _ _ _ _) ?_
        rw [show (entL 0 (.slice (some ⟨b4, 0, none⟩) 1 1) (fun _ => 0)).toArray.toList = (entL 0 (.slice (some ⟨b4, 0, none⟩) 1 1) (fun _ => 0)) from rfl]
        have hS2 := hS.store b7 gg7 (entL 0 (.slice (some ⟨b4, 0, none⟩) 1 1) (fun _ => 0))
        refine hK.out _ _ hS2 (fun _ => ?_)
        clear hK K
        try simp only [Act.put, List.setIfInBounds_toArray, List.set_cons_zero, List.set_cons_succ]
        have mm7 := entAt_stored hh7 0 (.slice (some ⟨b4, 0, none⟩) 1 1) (fun _ => 0)
        have hh1' := hh1.block (setCells_other b7 b1 (by omega) (entL 0 (.slice (some ⟨b4, 0, none⟩) 1 1) (fun _ => 0)) 0 w0)
        have hh4' := hh4.block (setCells_other b7 b4 (by omega) (entL 0 (.slice (some ⟨b4, 0, none⟩) 1 1) (fun _ => 0)) 0 w0)
        have mm6' := mm6.block (setCells_other b7 b6 (by omega) (entL 0 (.slice (some ⟨b4, 0, none⟩) 1 1) (fun _ => 0)) 0 w0)
        have ll1' : b1 < (w0.setCells b7 0 (entL 0 (.slice (some ⟨b4, 0, none⟩) 1 1) (fun _ => 0))).heap.size := by rw [setCells_size]; exact ll1
        have ll4' : b4 < (w0.setCells b7 0 (entL 0 (.slice (some ⟨b4, 0, none⟩) 1 1) (fun _ => 0))).heap.size := by rw [setCells_size]; exact ll4
        have ll6' : b6 < (w0.setCells b7 0 (entL 0 (.slice (some ⟨b4, 0, none⟩) 1 1) (fun _ => 0))).heap.size := by rw [setCells_size]; exact ll6
        have ll7' : b7 < (w0.setCells b7 0 (entL 0 (.slice (some ⟨b4, 0, none⟩) 1 1) (fun _ => 0))).heap.size := by rw [setCells_size]; exact ll7
        clear hS hh7 hh1 hh4 mm6 ll1 ll4 ll6 ll7
        have hh1 := hh1'
        clear hh1'
        have hh4 := hh4'
        clear hh4'
        have mm6 := mm6'
        clear mm6'
        have ll1 := ll1'
        clear ll1'
        have ll4 := ll4'
        clear ll4'
        have ll6 := ll6'
        clear ll6'
        have ll7 := ll7'
        clear ll7'
        have hS := hS2
        clear hS2
        generalize w0.setCells b7 0 (entL 0 (.slice (some ⟨b4, 0, none⟩) 1 1) (fun _ => 0)) = w1 at *
        try clear w0
        obtain ⟨w0, rfl⟩ : ∃ x, x = w1 := ⟨_, rfl⟩
        refine wpAnyH_done (by kernel_rfl) ?_ _
        exact hQn _ _ _ _ _ _ b1 b4 b6 b7 w0 hh1 hh4 mm6 mm7 hS
   ·
    go_simp
    refine hK.out _ _ ?_ (fun _ => ?_)
    · exact hS.alloc (Obj.cells (entL 0 (.slice none 0 0) (fun _ => 0)).toArray 28)
    clear hK K
    try simp only [Act.put, List.setIfInBounds_toArray, List.set_cons_zero, List.set_cons_succ]
    have hS2 := hS.alloc (Obj.cells (entL 0 (.slice none 0 0) (fun _ => 0)).toArray 28)
    have gg6 := hS.sz
    have hh6 := there_box w0
    have ll6 : w0.heap.size < (w0.alloc (Obj.cells (entL 0 (.slice none 0 0) (fun _ => 0)).toArray 28)).heap.size := by simp
    have hh7' := there_block hh7 (Below.heap_alloc w0 (Obj.cells (entL 0 (.slice none 0 0) (fun _ => 0)).toArray 28) b7 ll7)
    have ll7' : b7 < (w0.alloc (Obj.cells (entL 0 (.slice none 0 0) (fun _ => 0)).toArray 28)).heap.size := by simp; omega
    have nn67 : w0.heap.size ≠ b7 := by omega
    clear hS hh7 ll7
    have hh7 := hh7'
    have ll7 := ll7'
    clear hh7' ll7'
    have hS := hS2
    clear hS2
    generalize w0.alloc (Obj.cells (entL 0 (.slice none 0 0) (fun _ => 0)).toArray 28) = w1 at *
    generalize w0.heap.size = b6 at *
    try clear w0
    obtain ⟨w0, rfl⟩ : ∃ x, x = w1 := ⟨_, rfl⟩
    refine wpAnyH_ready (rs := [1, 4]) (by kernel_rfl) (by simp) ?_
    refine AllReadyH.cons rfl (fun K hK => ?_) (AllReadyH.cons rfl (fun K hK => ?_) AllReadyH.nil)
    ·
     go_simp
     refine hK.out _ _ ?_ (fun _ => ?_)
     · exact hS.alloc (Obj.cells #[.int .i64 k1, .int .i64 s1, .int .i64 g1, .int .i64 p1] 43)
     clear hK K
     try simp only [Act.put, List.setIfInBounds_toArray, List.set_cons_zero, List.set_cons_succ]
     have hS2 := hS.alloc (Obj.cells #[.int .i64 k1, .int .i64 s1, .int .i64 g1, .int .i64 p1] 43)
     have gg1 := hS.sz
     have hh1 := evsAt_box k1 s1 g1 p1 w0
     have ll1 : w0.heap.size < (w0.alloc (Obj.cells #[.int .i64 k1, .int .i64 s1, .int .i64 g1, .int .i64 p1] 43)).heap.size := by simp
     have hh7' := there_block hh7 (Below.heap_alloc w0 (Obj.cells #[.int .i64 k1, .int .i64 s1, .int .i64 g1, .int .i64 p1] 43) b7 ll7)
     have ll7' : b7 < (w0.alloc (Obj.cells #[.int .i64 k1, .int .i64 s1, .int .i64 g1, .int .i64 p1] 43)).heap.size := by simp; omega
     have nn17 : w0.heap.size ≠ b7 := by omega
     have hh6' := there_block hh6 (Below.heap_alloc w0 (Obj.cells #[.int .i64 k1, .int .i64 s1, .int .i64 g1, .int .i64 p1] 43) b6 ll6)
     have ll6' : b6 < (w0.alloc (Obj.cells #[.int .i64 k1, .int .i64 s1, .int .i64 g1, .int .i64 p1] 43)).heap.size := by simp; omega
     have nn16 : w0.heap.size ≠ b6 := by omega
     clear hS hh7 ll7 hh6 ll6
     have hh7 := hh7'
     have ll7 := ll7'
     clear hh7' ll7'
     have hh6 := hh6'
     have ll6 := ll6'
     clear hh6' ll6'
     have hS := hS2
     clear hS2
     generalize w0.alloc (Obj.cells #[.int .i64 k1, .int .i64 s1, .int .i64 g1, .int .i64 p1] 43) = w1 at *
     generalize w0.heap.size = b1 at *
     try clear w0
     obtain ⟨w0, rfl⟩ : ∃ x, x = w1 := ⟨_, rfl⟩
     refine wpAnyH_take (i := 2) (v := ?_) rfl (by kernel_rfl) (by kernel_rfl) (by kernel_rfl) (hQp 11 _) (Or.inl ⟨by rfl, ?_⟩) hS ?_
     rotate_left 1
     · intro w hw; refine build_run _ _ 10 b1 _ ?_ ?_ <;> rfl
     try simp only [Act.put, List.setIfInBounds_toArray, List.set_cons_zero, List.set_cons_succ]
     refine wpAnyH_ready (rs := [4, 8]) (by kernel_rfl) (by simp) ?_
     refine AllReadyH.cons rfl (fun K hK => ?_) (AllReadyH.cons rfl (fun K hK => ?_) AllReadyH.nil)
     ·
      go_simp
      refine hK.out _ _ ?_ (fun _ => ?_)
      · exact hS.alloc (Obj.cells #[.int .i64 k2, .int .i64 s2, .int .i64 g2, .int .i64 p2] 43)
      clear hK K
      try simp only [Act.put, List.setIfInBounds_toArray, List.set_cons_zero, List.set_cons_succ]
      have hS2 := hS.alloc (Obj.cells #[.int .i64 k2, .int .i64 s2, .int .i64 g2, .int .i64 p2] 43)
      have gg4 := hS.sz
      have hh4 := evsAt_box k2 s2 g2 p2 w0
      have ll4 : w0.heap.size < (w0.alloc (Obj.cells #[.int .i64 k2, .int .i64 s2, .int .i64 g2, .int .i64 p2] 43)).heap.size := by simp
      have hh7' := there_block hh7 (Below.heap_alloc w0 (Obj.cells #[.int .i64 k2, .int .i64 s2, .int .i64 g2, .int .i64 p2] 43) b7 ll7)
      have ll7' : b7 < (w0.alloc (Obj.cells #[.int .i64 k2, .int .i64 s2, .int .i64 g2, .int .i64 p2] 43)).heap.size := by simp; omega
      have nn47 : w0.heap.size ≠ b7 := by omega
      have hh6' := there_block hh6 (Below.heap_alloc w0 (Obj.cells #[.int .i64 k2, .int .i64 s2, .int .i64 g2, .int .i64 p2] 43) b6 ll6)
      have ll6' : b6 < (w0.alloc (Obj.cells #[.int .i64 k2, .int .i64 s2, .int .i64 g2, .int .i64 p2] 43)).heap.size := by simp; omega
      have nn46 : w0.heap.size ≠ b6 := by omega
      have hh1' := hh1.block (Below.heap_alloc w0 (Obj.cells #[.int .i64 k2, .int .i64 s2, .int .i64 g2, .int .i64 p2] 43) b1 ll1)
      have ll1' : b1 < (w0.alloc (Obj.cells #[.int .i64 k2, .int .i64 s2, .int .i64 g2, .int .i64 p2] 43)).heap.size := by simp; omega
      have nn41 : w0.heap.size ≠ b1 := by omega
      clear hS hh7 ll7 hh6 ll6 hh1 ll1
      have hh7 := hh7'
      have ll7 := ll7'
      clear hh7' ll7'
      have hh6 := hh6'
      have ll6 := ll6'
      clear hh6' ll6'
      have hh1 := hh1'
      have ll1 := ll1'
      clear hh1' ll1'
      have hS := hS2
      clear hS2
      generalize w0.alloc (Obj.cells #[.int .i64 k2, .int .i64 s2, .int .i64 g2, .int .i64 p2] 43) = w1 at *
      generalize w0.heap.size = b4 at *
      try clear w0
      obtain ⟨w0, rfl⟩ : ∃ x, x = w1 := ⟨_, rfl⟩
      refine wpAnyH_take (i := 5) (v := ?_) rfl (by kernel_rfl) (by kernel_rfl) (by kernel_rfl) (hQp 14 _) (Or.inl ⟨by rfl, ?_⟩) hS ?_
      rotate_left 1
      · intro w hw; refine build_run _ _ 13 b4 _ ?_ ?_ <;> rfl
      try simp only [Act.put, List.setIfInBounds_toArray, List.set_cons_zero, List.set_cons_succ]
      refine wpAnyH_ready (rs := [8]) (by kernel_rfl) (by simp) ?_
      refine AllReadyH.cons rfl (fun K hK => ?_) AllReadyH.nil
      ·
       rw [if_pos (by rfl)]
       refine wp_store_mid 28 _ _ rfl b6 0 (entL 0 (.slice (some ⟨b1, 0, none⟩) 1 1) (fun _ => 0)).toArray rfl rfl (by rw [List.size_toArray, entL_len]; exact hh6) (by rw [List.size_toArray]; exact size_ent _ _ _) (entL_one _ _ _ _ _) ?_
       rw [show (entL 0 (.slice (some ⟨b1, 0, none⟩) 1 1) (fun _ => 0)).toArray.toList = (entL 0 (.slice (some ⟨b1, 0, none⟩) 1 1) (fun _ => 0)) from rfl]
       have hS2 := hS.store b6 gg6 (entL 0 (.slice (some ⟨b1, 0, none⟩) 1 1) (fun _ => 0))
       refine hK.out _ _ hS2 (fun _ => ?_)
       clear hK K
       try simp only [Act.put, List.setIfInBounds_toArray, List.set_cons_zero, List.set_cons_succ]
       have mm6 := entAt_stored hh6 0 (.slice (some ⟨b1, 0, none⟩) 1 1) (fun _ => 0)
       have hh1' := hh1.block (setCells_other b6 b1 (by omega) (entL 0 (.slice (some ⟨b1, 0, none⟩) 1 1) (fun _ => 0)) 0 w0)
       have hh4' := hh4.block (setCells_other b6 b4 (by omega) (entL 0 (.slice (some ⟨b1, 0, none⟩) 1 1) (fun _ => 0)) 0 w0)
       have hh7' := there_block hh7 (setCells_other b6 b7 (by omega) (entL 0 (.slice (some ⟨b1, 0, none⟩) 1 1) (fun _ => 0)) 0 w0)
       have ll1' : b1 < (w0.setCells b6 0 (entL 0 (.slice (some ⟨b1, 0, none⟩) 1 1) (fun _ => 0))).heap.size := by rw [setCells_size]; exact ll1
       have ll4' : b4 < (w0.setCells b6 0 (entL 0 (.slice (some ⟨b1, 0, none⟩) 1 1) (fun _ => 0))).heap.size := by rw [setCells_size]; exact ll4
       have ll6' : b6 < (w0.setCells b6 0 (entL 0 (.slice (some ⟨b1, 0, none⟩) 1 1) (fun _ => 0))).heap.size := by rw [setCells_size]; exact ll6
       have ll7' : b7 < (w0.setCells b6 0 (entL 0 (.slice (some ⟨b1, 0, none⟩) 1 1) (fun _ => 0))).heap.size := by rw [setCells_size]; exact ll7
       clear hS hh6 hh1 hh4 hh7 ll1 ll4 ll6 ll7
       have hh1 := hh1'
       clear hh1'
       have hh4 := hh4'
       clear hh4'
       have hh7 := hh7'
       clear hh7'
       have ll1 := ll1'
       clear ll1'
       have ll4 := ll4'
       clear ll4'
       have ll6 := ll6'
       clear ll6'
       have ll7 := ll7'
       clear ll7'
       have hS := hS2
       clear hS2
       generalize w0.setCells b6 0 (entL 0 (.slice (some ⟨b1, 0, none⟩) 1 1) (fun _ => 0)) = w1 at *
       try clear w0
       obtain ⟨w0, rfl⟩ : ∃ x, x = w1 := ⟨_, rfl⟩
       refine wpAnyH_ready (rs := [9]) (by kernel_rfl) (by simp) ?_
       refine AllReadyH.cons rfl (fun K hK => ?_) AllReadyH.nil
       ·
        rw [if_pos (by rfl)]
        refine wp_store_mid 28 _ _ rfl b7 0 (entL 0 (.slice (some ⟨b4, 0, none⟩) 1 1) (fun _ => 0)).toArray rfl rfl (by rw [List.size_toArray, entL_len]; exact hh7) (by rw [List.size_toArray]; exact size_ent _ _ _) (entL_one _ _ _ _ _) ?_
        rw [show (entL 0 (.slice (some ⟨b4, 0, none⟩) 1 1) (fun _ => 0)).toArray.toList = (entL 0 (.slice (some ⟨b4, 0, none⟩) 1 1) (fun _ => 0)) from rfl]
        have hS2 := hS.store b7 gg7 (entL 0 (.slice (some ⟨b4, 0, none⟩) 1 1) (fun _ => 0))
        refine hK.out _ _ hS2 (fun _ => ?_)
        clear hK K
        try simp only [Act.put, List.setIfInBounds_toArray, List.set_cons_zero, List.set_cons_succ]
        have mm7 := entAt_stored hh7 0 (.slice (some ⟨b4, 0, none⟩) 1 1) (fun _ => 0)
        have hh1' := hh1.block (setCells_other b7 b1 (by omega) (entL 0 (.slice (some ⟨b4, 0, none⟩) 1 1) (fun _ => 0)) 0 w0)
        have hh4' := hh4.block (setCells_other b7 b4 (by omega) (entL 0 (.slice (some ⟨b4, 0, none⟩) 1 1) (fun _ => 0)) 0 w0)
        have mm6' := mm6.block (setCells_other b7 b6 (by omega) (entL 0 (.slice (some ⟨b4, 0, none⟩) 1 1) (fun _ => 0)) 0 w0)
        have ll1' : b1 < (w0.setCells b7 0 (entL 0 (.slice (some ⟨b4, 0, none⟩) 1 1) (fun _ => 0))).heap.size := by rw [setCells_size]; exact ll1
        have ll4' : b4 < (w0.setCells b7 0 (entL 0 (.slice (some ⟨b4, 0, none⟩) 1 1) (fun _ => 0))).heap.size := by rw [setCells_size]; exact ll4
        have ll6' : b6 < (w0.setCells b7 0 (entL 0 (.slice (some ⟨b4, 0, none⟩) 1 1) (fun _ => 0))).heap.size := by rw [setCells_size]; exact ll6
        have ll7' : b7 < (w0.setCells b7 0 (entL 0 (.slice (some ⟨b4, 0, none⟩) 1 1) (fun _ => 0))).heap.size := by rw [setCells_size]; exact ll7
        clear hS hh7 hh1 hh4 mm6 ll1 ll4 ll6 ll7
        have hh1 := hh1'
        clear hh1'
        have hh4 := hh4'
        clear hh4'
        have mm6 := mm6'
        clear mm6'
        have ll1 := ll1'
        clear ll1'
        have ll4 := ll4'
        clear ll4'
        have ll6 := ll6'
        clear ll6'
        have ll7 := ll7'
        clear ll7'
        have hS := hS2
        clear hS2
        generalize w0.setCells b7 0 (entL 0 (.slice (some ⟨b4, 0, none⟩) 1 1) (fun _ => 0)) = w1 at *
        try clear w0
        obtain ⟨w0, rfl⟩ : ∃ x, x = w1 := ⟨_, rfl⟩
        refine wpAnyH_done (by kernel_rfl) ?_ _
        exact hQn _ _ _ _ _ _ b1 b4 b6 b7 w0 hh1 hh4 mm6 mm7 hS
     ·
      rw [if_pos (by rfl)]
      refine wp_store_mid 28 _ _ rfl b6 0 (entL 0 (.slice (some ⟨b1, 0, none⟩) 1 1) (fun _ => 0)).toArray rfl rfl (by rw [List.size_toArray, entL_len]; exact hh6) (by rw [List.size_toArray]; exact size_ent _ _ _) (entL_one _ _ _ _ _) ?_
      rw [show (entL 0 (.slice (some ⟨b1, 0, none⟩) 1 1) (fun _ => 0)).toArray.toList = (entL 0 (.slice (some ⟨b1, 0, none⟩) 1 1) (fun _ => 0)) from rfl]
      have hS2 := hS.store b6 gg6 (entL 0 (.slice (some ⟨b1, 0, none⟩) 1 1) (fun _ => 0))
      refine hK.out _ _ hS2 (fun _ => ?_)
      clear hK K
      try simp only [Act.put, List.setIfInBounds_toArray, List.set_cons_zero, List.set_cons_succ]
      have mm6 := entAt_stored hh6 0 (.slice (some ⟨b1, 0, none⟩) 1 1) (fun _ => 0)
      have hh1' := hh1.block (setCells_other b6 b1 (by omega) (entL 0 (.slice (some ⟨b1, 0, none⟩) 1 1) (fun _ => 0)) 0 w0)
      have hh7' := there_block hh7 (setCells_other b6 b7 (by omega) (entL 0 (.slice (some ⟨b1, 0, none⟩) 1 1) (fun _ => 0)) 0 w0)
      have ll1' : b1 < (w0.setCells b6 0 (entL 0 (.slice (some ⟨b1, 0, none⟩) 1 1) (fun _ => 0))).heap.size := by rw [setCells_size]; exact ll1
      have ll6' : b6 < (w0.setCells b6 0 (entL 0 (.slice (some ⟨b1, 0, none⟩) 1 1) (fun _ => 0))).heap.size := by rw [setCells_size]; exact ll6
      have ll7' : b7 < (w0.setCells b6 0 (entL 0 (.slice (some ⟨b1, 0, none⟩) 1 1) (fun _ => 0))).heap.size := by rw [setCells_size]; exact ll7
      clear hS hh6 hh1 hh7 ll1 ll6 ll7
      have hh1 := hh1'
      clear hh1'
      have hh7 := hh7'
      clear hh7'
      have ll1 := ll1'
      clear ll1'
      have ll6 := ll6'
      clear ll6'
      have ll7 := ll7'
      clear ll7'
      have hS := hS2
      clear hS2
      generalize w0.setCells b6 0 (entL 0 (.slice (some ⟨b1, 0, none⟩) 1 1) (fun _ => 0)) = w1 at *
      try clear w0
      obtain ⟨w0, rfl⟩ : ∃ x, x = w1 := ⟨_, rfl⟩
      refine wpAnyH_ready (rs := [4]) (by kernel_rfl) (by simp) ?_
      refine AllReadyH.cons rfl (fun K hK => ?_) AllReadyH.nil
      ·
       go_simp
       refine hK.out _ _ ?_ (fun _ => ?_)
       · exact hS.alloc (Obj.cells #[.int .i64 k2, .int .i64 s2, .int .i64 g2, .int .i64 p2] 43)
       clear hK K
       try simp only [Act.put, List.setIfInBounds_toArray, List.set_cons_zero, List.set_cons_succ]
       have hS2 := hS.alloc (Obj.cells #[.int .i64 k2, .int .i64 s2, .int .i64 g2, .int .i64 p2] 43)
       have gg4 := hS.sz
       have hh4 := evsAt_box k2 s2 g2 p2 w0
       have ll4 : w0.heap.size < (w0.alloc (Obj.cells #[.int .i64 k2, .int .i64 s2, .int .i64 g2, .int .i64 p2] 43)).heap.size := by simp
       have hh7' := there_block hh7 (Below.heap_alloc w0 (Obj.cells #[.int .i64 k2, .int .i64 s2, .int .i64 g2, .int .i64 p2] 43) b7 ll7)
       have ll7' : b7 < (w0.alloc (Obj.cells #[.int .i64 k2, .int .i64 s2, .int .i64 g2, .int .i64 p2] 43)).heap.size := by simp; omega
       have nn47 : w0.heap.size ≠ b7 := by omega
       have mm6' := mm6.block (Below.heap_alloc w0 (Obj.cells #[.int .i64 k2, .int .i64 s2, .int .i64 g2, .int .i64 p2] 43) b6 ll6)
       have ll6' : b6 < (w0.alloc (Obj.cells #[.int .i64 k2, .int .i64 s2, .int .i64 g2, .int .i64 p2] 43)).heap.size := by simp; omega
       have nn46 : w0.heap.size ≠ b6 := by omega
       have hh1' := hh1.block (Below.heap_alloc w0 (Obj.cells #[.int .i64 k2, .int .i64 s2, .int .i64 g2, .int .i64 p2] 43) b1 ll1)
       have ll1' : b1 < (w0.alloc (Obj.cells #[.int .i64 k2, .int .i64 s2, .int .i64 g2, .int .i64 p2] 43)).heap.size := by simp; omega
       have nn41 : w0.heap.size ≠ b1 := by omega
       clear hS hh7 ll7 mm6 ll6 hh1 ll1
       have hh7 := hh7'
       have ll7 := ll7'
       clear hh7' ll7'
       have mm6 := mm6'
       have ll6 := ll6'
       clear mm6' ll6'
       have hh1 := hh1'
       have ll1 := ll1'
       clear hh1' ll1'
       have hS := hS2
       clear hS2
       generalize w0.alloc (Obj.cells #[.int .i64 k2, .int .i64 s2, .int .i64 g2, .int .i64 p2] 43) = w1 at *
       generalize w0.heap.size = b4 at *
       try clear w0
       obtain ⟨w0, rfl⟩ : ∃ x, x = w1 := ⟨_, rfl⟩
       refine wpAnyH_take (i := 5) (v := ?_) rfl (by kernel_rfl) (by kernel_rfl) (by kernel_rfl) (hQp 14 _) (Or.inl ⟨by rfl, ?_⟩) hS ?_
       rotate_left 1
       · intro w hw; refine build_run _ _ 13 b4 _ ?_ ?_ <;> rfl
       try simp only [Act.put, List.setIfInBounds_toArray, List.set_cons_zero, List.set_cons_succ]
       refine wpAnyH_ready (rs := [9]) (by kernel_rfl) (by simp) ?_
       refine AllReadyH.cons rfl (fun K hK => ?_) AllReadyH.nil
       ·
        rw [if_pos (by rfl)]
        refine wp_store_mid 28 _ _ rfl b7 0 (entL 0 (.slice (some ⟨b4, 0, none⟩) 1 1) (fun _ => 0)).toArray rfl rfl (by rw [List.size_toArray, entL_len]; exact hh7) (by rw [List.size_toArray]; exact size_ent _ _ _) (entL_one _ _ _ _ _) ?_
        rw [show (entL 0 (.slice (some ⟨b4, 0, none⟩) 1 1) (fun _ => 0)).toArray.toList = (entL 0 (.slice (some ⟨b4, 0, none⟩) 1 1) (fun _ => 0)) from rfl]
        have hS2 := hS.store b7 gg7 (entL 0 (.slice (some ⟨b4, 0, none⟩) 1 1) (fun _ => 0))
        refine hK.out _ _ hS2 (fun _ => ?_)
        clear hK K
        try simp only [Act.put, List.setIfInBounds_toArray, List.set_cons_zero, List.set_cons_succ]
        have mm7 := entAt_stored hh7 0 (.slice (some ⟨b4, 0, none⟩) 1 1) (fun _ => 0)
        have hh1' := hh1.block (setCells_other b7 b1 (by omega) (entL 0 (.slice (some ⟨b4, 0, none⟩) 1 1) (fun _ => 0)) 0 w0)
        have hh4' := hh4.block (setCells_other b7 b4 (by omega) (entL 0 (.slice (some ⟨b4, 0, none⟩) 1 1) (fun _ => 0)) 0 w0)
        have mm6' := mm6.block (setCells_other b7 b6 (by omega) (entL 0 (.slice (some ⟨b4, 0, none⟩) 1 1) (fun _ => 0)) 0 w0)
        have ll1' : b1 < (w0.setCells b7 0 (entL 0 (.slice (some ⟨b4, 0, none⟩) 1 1) (fun _ => 0))).heap.size := by rw [setCells_size]; exact ll1
        have ll4' : b4 < (w0.setCells b7 0 (entL 0 (.slice (some ⟨b4, 0, none⟩) 1 1) (fun _ => 0))).heap.size := by rw [setCells_size]; exact ll4
        have ll6' : b6 < (w0.setCells b7 0 (entL 0 (.slice (some ⟨b4, 0, none⟩) 1 1) (fun _ => 0))).heap.size := by rw [setCells_size]; exact ll6
        have ll7' : b7 < (w0.setCells b7 0 (entL 0 (.slice (some ⟨b4, 0, none⟩) 1 1) (fun _ => 0))).heap.size := by rw [setCells_size]; exact ll7
        clear hS hh7 hh1 hh4 mm6 ll1 ll4 ll6 ll7
        have hh1 := hh1'
        clear hh1'
        have hh4 := hh4'
        clear hh4'
        have mm6 := mm6'
        clear mm6'
        have ll1 := ll1'
        clear ll1'
        have ll4 := ll4'
        clear ll4'
        have ll6 := ll6'
        clear ll6'
        have ll7 := ll7'
        clear ll7'
        have hS := hS2
        clear hS2
        generalize w0.setCells b7 0 (entL 0 (.slice (some ⟨b4, 0, none⟩) 1 1) (fun _ => 0)) = w1 at *
        try clear w0
        obtain ⟨w0, rfl⟩ : ∃ x, x = w1 := ⟨_, rfl⟩
        refine wpAnyH_done (by kernel_rfl) ?_ _
        exact hQn _ _ _ _ _ _ b1 b4 b6 b7 w0 hh1 hh4 mm6 mm7 hS
    ·
     go_simp
     refine hK.out _ _ ?_ (fun _ => ?_)
     · exact hS.alloc (Obj.cells #[.int .i64 k2, .int .i64 s2, .int .i64 g2, .int .i64 p2] 43)
     clear hK K
     try simp only [Act.put, List.setIfInBounds_toArray, List.set_cons_zero, List.set_cons_succ]
     have hS2 := hS.alloc (Obj.cells #[.int .i64 k2, .int .i64 s2, .int .i64 g2, .int .i64 p2] 43)
     have gg4 := hS.sz
     have hh4 := evsAt_box k2 s2 g2 p2 w0
     have ll4 : w0.heap.size < (w0.alloc (Obj.cells #[.int .i64 k2, .int .i64 s2, .int .i64 g2, .int .i64 p2] 43)).heap.size := by simp
     have hh7' := there_block hh7 (Below.heap_alloc w0 (Obj.cells #[.int .i64 k2, .int .i64 s2, .int .i64 g2, .int .i64 p2] 43) b7 ll7)
     have ll7' : b7 < (w0.alloc (Obj.cells #[.int .i64 k2, .int .i64 s2, .int .i64 g2, .int .i64 p2] 43)).heap.size := by simp; omega
     have nn47 : w0.heap.size ≠ b7 := by omega
     have hh6' := there_block hh6 (Below.heap_alloc w0 (Obj.cells #[.int .i64 k2, .int .i64 s2, .int .i64 g2, .int .i64 p2] 43) b6 ll6)
     have ll6' : b6 < (w0.alloc (Obj.cells #[.int .i64 k2, .int .i64 s2, .int .i64 g2, .int .i64 p2] 43)).heap.size := by simp; omega
     have nn46 : w0.heap.size ≠ b6 := by omega
     clear hS hh7 ll7 hh6 ll6
     have hh7 := hh7'
     have ll7 := ll7'
     clear hh7' ll7'
     have hh6 := hh6'
     have ll6 := ll6'
     clear hh6' ll6'
     have hS := hS2
     clear hS2
     generalize w0.alloc (Obj.cells #[.int .i64 k2, .int .i64 s2, .int .i64 g2, .int .i64 p2] 43) = w1 at *
     generalize w0.heap.size = b4 at *
     try clear w0
     obtain ⟨w0, rfl⟩ : ∃ x, x = w1 := ⟨_, rfl⟩
     refine wpAnyH_take (i := 5) (v := ?_) rfl (by kernel_rfl) (by kernel_rfl) (by kernel_rfl) (hQp 14 _) (Or.inl ⟨by rfl, ?_⟩) hS ?_
     rotate_left 1
     · intro w hw; refine build_run _ _ 13 b4 _ ?_ ?_ <;> rfl
     try simp only [Act.put, List.setIfInBounds_toArray, List.set_cons_zero, List.set_cons_succ]
     refine wpAnyH_ready (rs := [1]) (by kernel_rfl) (by simp) ?_
     refine AllReadyH.cons rfl (fun K hK => ?_) AllReadyH.nil
     ·
      go_simp
      refine hK.out _ _ ?_ (fun _ => ?_)
      · exact hS.alloc (Obj.cells #[.int .i64 k1, .int .i64 s1, .int .i64 g1, .int .i64 p1] 43)
      clear hK K
      try simp only [Act.put, List.setIfInBounds_toArray, List.set_cons_zero, List.set_cons_succ]
      have hS2 := hS.alloc (Obj.cells #[.int .i64 k1, .int .i64 s1, .int .i64 g1, .int .i64 p1] 43)
      have gg1 := hS.sz
      have hh1 := evsAt_box k1 s1 g1 p1 w0
      have ll1 : w0.heap.size < (w0.alloc (Obj.cells #[.int .i64 k1, .int .i64 s1, .int .i64 g1, .int .i64 p1] 43)).heap.size := by simp
      have hh7' := there_block hh7 (Below.heap_alloc w0 (Obj.cells #[.int .i64 k1, .int .i64 s1, .int .i64 g1, .int .i64 p1] 43) b7 ll7)
      have ll7' : b7 < (w0.alloc (Obj.cells #[.int .i64 k1, .int .i64 s1, .int .i64 g1, .int .i64 p1] 43)).heap.size := by simp; omega
      have nn17 : w0.heap.size ≠ b7 := by omega
      have hh6' := there_block hh6 (Below.heap_alloc w0 (Obj.cells #[.int .i64 k1, .int .i64 s1, .int .i64 g1, .int .i64 p1] 43) b6 ll6)
      have ll6' : b6 < (w0.alloc (Obj.cells #[.int .i64 k1, .int .i64 s1, .int .i64 g1, .int .i64 p1] 43)).heap.size := by simp; omega
      have nn16 : w0.heap.size ≠ b6 := by omega
      have hh4' := hh4.block (Below.heap_alloc w0 (Obj.cells #[.int .i64 k1, .int .i64 s1, .int .i64 g1, .int .i64 p1] 43) b4 ll4)
      have ll4' : b4 < (w0.alloc (Obj.cells #[.int .i64 k1, .int .i64 s1, .int .i64 g1, .int .i64 p1] 43)).heap.size := by simp; omega
      have nn14 : w0.heap.size ≠ b4 := by omega
      clear hS hh7 ll7 hh6 ll6 hh4 ll4
      have hh7 := hh7'
      have ll7 := ll7'
      clear hh7' ll7'
      have hh6 := hh6'
      have ll6 := ll6'
      clear hh6' ll6'
      have hh4 := hh4'
      have ll4 := ll4'
      clear hh4' ll4'
      have hS := hS2
      clear hS2
      generalize w0.alloc (Obj.cells #[.int .i64 k1, .int .i64 s1, .int .i64 g1, .int .i64 p1] 43) = w1 at *
      generalize w0.heap.size = b1 at *
      try clear w0
      obtain ⟨w0, rfl⟩ : ∃ x, x = w1 := ⟨_, rfl⟩
      refine wpAnyH_take (i := 2) (v := ?_) rfl (by kernel_rfl) (by kernel_rfl) (by kernel_rfl) (hQp 11 _) (Or.inl ⟨by rfl, ?_⟩) hS ?_
      rotate_left 1
      · intro w hw; refine build_run _ _ 10 b1 _ ?_ ?_ <;> rfl
      try simp only [Act.put, List.setIfInBounds_toArray, List.set_cons_zero, List.set_cons_succ]
      refine wpAnyH_ready (rs := [8]) (by kernel_rfl) (by simp) ?_
      refine AllReadyH.cons rfl (fun K hK => ?_) AllReadyH.nil
      ·
       rw [if_pos (by rfl)]
       refine wp_store_mid 28 _ _ rfl b6 0 (entL 0 (.slice (some ⟨b1, 0, none⟩) 1 1) (fun _ => 0)).toArray rfl rfl (by rw [List.size_toArray, entL_len]; exact hh6) (by rw [List.size_toArray]; exact size_ent _ _ _) (entL_one _ _ _ _ _) ?_
       rw [show (entL 0 (.slice (some ⟨b1, 0, none⟩) 1 1) (fun _ => 0)).toArray.toList = (entL 0 (.slice (some ⟨b1, 0, none⟩) 1 1) (fun _ => 0)) from rfl]
       have hS2 := hS.store b6 gg6 (entL 0 (.slice (some ⟨b1, 0, none⟩) 1 1) (fun _ => 0))
       refine hK.out _ _ hS2 (fun _ => ?_)
       clear hK K
       try simp only [Act.put, List.setIfInBounds_toArray, List.set_cons_zero, List.set_cons_succ]
       have mm6 := entAt_stored hh6 0 (.slice (some ⟨b1, 0, none⟩) 1 1) (fun _ => 0)
       have hh1' := hh1.block (setCells_other b6 b1 (by omega) (entL 0 (.slice (some ⟨b1, 0, none⟩) 1 1) (fun _ => 0)) 0 w0)
       have hh4' := hh4.block (setCells_other b6 b4 (by omega) (entL 0 (.slice (some ⟨b1, 0, none⟩) 1 1) (fun _ => 0)) 0 w0)
       have hh7' := there_block hh7 (setCells_other b6 b7 (by omega) (entL 0 (.slice (some ⟨b1, 0, none⟩) 1 1) (fun _ => 0)) 0 w0)
       have ll1' : b1 < (w0.setCells b6 0 (entL 0 (.slice (some ⟨b1, 0, none⟩) 1 1) (fun _ => 0))).heap.size := by rw [setCells_size]; exact ll1
       have ll4' : b4 < (w0.setCells b6 0 (entL 0 (.slice (some ⟨b1, 0, none⟩) 1 1) (fun _ => 0))).heap.size := by rw [setCells_size]; exact ll4
       have ll6' : b6 < (w0.setCells b6 0 (entL 0 (.slice (some ⟨b1, 0, none⟩) 1 1) (fun _ => 0))).heap.size := by rw [setCells_size]; exact ll6
       have ll7' : b7 < (w0.setCells b6 0 (entL 0 (.slice (some ⟨b1, 0, none⟩) 1 1) (fun _ => 0))).heap.size := by rw [setCells_size]; exact ll7
       clear hS hh6 hh1 hh4 hh7 ll1 ll4 ll6 ll7
       have hh1 := hh1'
       clear hh1'
       have hh4 := hh4'
       clear hh4'
       have hh7 := hh7'
       clear hh7'
       have ll1 := ll1'
       clear ll1'
       have ll4 := ll4'
       clear ll4'
       have ll6 := ll6'
       clear ll6'
       have ll7 := ll7'
       clear ll7'
       have hS := hS2
       clear hS2
       generalize w0.setCells b6 0 (entL 0 (.slice (some ⟨b1, 0, none⟩) 1 1) (fun _ => 0)) = w1 at *
       try clear w0
       obtain ⟨w0, rfl⟩ : ∃ x, x = w1 := ⟨_, rfl⟩
       refine wpAnyH_ready (rs := [9]) (by kernel_rfl) (by simp) ?_
       refine AllReadyH.cons rfl (fun K hK => ?_) AllReadyH.nil
       ·
        rw [if_pos (by rfl)]
        refine wp_store_mid 28 _ _ rfl b7 0 (entL 0 (.slice (some ⟨b4, 0, none⟩) 1 1) (fun _ => 0)).toArray rfl rfl (by rw [List.size_toArray, entL_len]; exact hh7) (by rw [List.size_toArray]; exact size_ent _ _ _) (entL_one _ _ _ _ _) ?_
        rw [show (entL 0 (.slice (some ⟨b4, 0, none⟩) 1 1) (fun _ => 0)).toArray.toList = (entL 0 (.slice (some ⟨b4, 0, none⟩) 1 1) (fun _ => 0)) from rfl]
        have hS2 := hS.store b7 gg7 (entL 0 (.slice (some ⟨b4, 0, none⟩) 1 1) (fun _ => 0))
        refine hK.out _ _ hS2 (fun _ => ?_)
        clear hK K
        try simp only [Act.put, List.setIfInBounds_toArray, List.set_cons_zero, List.set_cons_succ]
        have mm7 := entAt_stored hh7 0 (.slice (some ⟨b4, 0, none⟩) 1 1) (fun _ => 0)
        have hh1' := hh1.block (setCells_other b7 b1 (by omega) (entL 0 (.slice (some ⟨b4, 0, none⟩) 1 1) (fun _ => 0)) 0 w0)
        have hh4' := hh4.block (setCells_other b7 b4 (by omega) (entL 0 (.slice (some ⟨b4, 0, none⟩) 1 1) (fun _ => 0)) 0 w0)
        have mm6' := mm6.block (setCells_other b7 b6 (by omega) (entL 0 (.slice (some ⟨b4, 0, none⟩) 1 1) (fun _ => 0)) 0 w0)
        have ll1' : b1 < (w0.setCells b7 0 (entL 0 (.slice (some ⟨b4, 0, none⟩) 1 1) (fun _ => 0))).heap.size := by rw [setCells_size]; exact ll1
        have ll4' : b4 < (w0.setCells b7 0 (entL 0 (.slice (some ⟨b4, 0, none⟩) 1 1) (fun _ => 0))).heap.size := by rw [setCells_size]; exact ll4
        have ll6' : b6 < (w0.setCells b7 0 (entL 0 (.slice (some ⟨b4, 0, none⟩) 1 1) (fun _ => 0))).heap.size := by rw [setCells_size]; exact ll6
        have ll7' : b7 < (w0.setCells b7 0 (entL 0 (.slice (some ⟨b4, 0, none⟩) 1 1) (fun _ => 0))).heap.size := by rw [setCells_size]; exact ll7
        clear hS hh7 hh1 hh4 mm6 ll1 ll4 ll6 ll7
        have hh1 := hh1'
        clear hh1'
        have hh4 := hh4'
        clear hh4'
        have mm6 := mm6'
        clear mm6'
        have ll1 := ll1'
        clear ll1'
        have ll4 := ll4'
        clear ll4'
        have ll6 := ll6'
        clear ll6'
        have ll7 := ll7'
        clear ll7'
        have hS := hS2
        clear hS2
        generalize w0.setCells b7 0 (entL 0 (.slice (some ⟨b4, 0, none⟩) 1 1) (fun _ => 0)) = w1 at *
        try clear w0
        obtain ⟨w0, rfl⟩ : ∃ x, x = w1 := ⟨_, rfl⟩
        refine wpAnyH_done (by kernel_rfl) ?_ _
        exact hQn _ _ _ _ _ _ b1 b4 b6 b7 w0 hh1 hh4 mm6 mm7 hS
end Go.Proofs.Ytmhgkkfeohaojaa
