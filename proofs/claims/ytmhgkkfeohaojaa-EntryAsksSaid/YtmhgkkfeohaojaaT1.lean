/-
  Entry: the region of EntryFront that draws its order.
-/
import Derived.Test.YtmhgkkfeohaojaaT0
namespace Go.Proofs.Ytmhgkkfeohaojaa
set_option linter.unusedVariables false
open Go.ChangeShapes Go.WideShapes Go.ChangeAt Go.RowKit

set_option linter.unusedSimpArgs false
structure FX (T : Nat) (wb wd w' : World) : Prop where
  k : w'.heap[T]? = wd.heap[T]?
  sz : T + 1 ≤ w'.heap.size
  bel : Below T wb w'
theorem FX.alloc {T : Nat} {wb wd w' : World} (h : FX T wb wd w') (o : Obj) : FX T wb wd (w'.alloc o) := by
  have := h.sz
  exact ⟨(Below.heap_alloc w' o T (by omega)).trans h.k, by simp; omega, h.bel.alloc (by omega) o⟩
theorem FX.grown2 {T : Nat} {wb wd w' w2 : World} (h : FX T wb wd w') {r : Option Nat} (hg : w'.grownBy w2 r) (hr : ∀ g, r = some g → T + 1 ≤ g) : FX T wb wd w2 := by
  have := h.sz
  exact ⟨(hg.block T (by omega) (fun e => by have := hr T e.symm; omega)).trans h.k, Nat.le_trans h.sz hg.size, h.bel.grown hg (by omega) (fun k hk => by have := hr k hk; omega)⟩
theorem FX.grown {T : Nat} {wb wd w' w2 : World} (h : FX T wb wd w') {r : Option Nat} (hg : w'.grownBy w2 r) (g : Nat) (hr : r = some g) (hge : T + 1 ≤ g) : FX T wb wd w2 :=
  h.grown2 hg (fun g' e => by rw [hr] at e; injection e with e; omega)
theorem wp_run {op : Oper} {a : Act} {w w' : World} {v : Value} {K : Act → World → Prop} {Q : Exit → Act → World → Prop} (hr : (execOp a.eval op).run Try.prog w = .ok (.value v) w') (hK : K (a.put op.dst v) w') : Oper.wp Try.prog op a w K Q := by
  unfold Oper.wp
  rw [hr]
  exact hK
theorem exec_bs_ent {op : Oper} {a : Act} {w : World} (fr : Int) (sv : Value) (I : Nat → Int) (p : Operand) (hop : op.op = Op.buildSlice 45 1 #[(0, p)]) (hp : a.eval p = .agg (entL fr sv I).toArray) :
    (execOp a.eval op).run Try.prog w = .ok (.value (.slice (some ⟨w.heap.size, 0, none⟩) 1 1)) (w.alloc (Obj.cells (entL fr sv I).toArray 28)) := by
  have e : (Array.map (fun x => (x.fst, a.eval x.snd)) #[(0, p)] : Array (Nat × Value)) = #[(0, .agg (entL fr sv I).toArray)] := by simp [hp]
  simp only [execOp, hop]
  rw [e, Sem.run_bind, bs_ent]
  rfl
noncomputable def efCode : Code := ((Try.f6.body.bind drawn).getD .skip)
set_option maxRecDepth 100000 in
set_option maxHeartbeats 8000000 in
theorem ef_region (T : Nat) (wb wr w0 : World) (hw0 : wr.drew = w0) (hTb : wb.heap.size ≤ T) (a : Option Addr) (n cap k : Nat) (hkn : (k : Int) ≤ (n : Int)) (hkc : (k : Int) ≤ (cap : Int)) (hkc' : k ≤ cap) (hk20 : k ≤ 20) (hnone : a = none → k = 0 ∧ cap = 0) (fr : Int) (sve : Value) (I : Nat → Int)
    (D : Nat → Ent) (SV : Nat → Value) (hsl : ∀ i, ∃ a n c, SV i = .slice a n c) (hDk : D k = ⟨fr, (D k).n, (D k).E, I⟩) (hSk : SV k = sve)
    (hcell : 0 < k → ∃ b o, a = some ⟨b, o, none⟩ ∧ b < T ∧ ∀ i, i < k → EntAt wb b (o + i * 26) (D i).fr (SV i) (D i).I) (hev : ∀ i, i ≤ k → EvsV wb (SV i) (D i).n (D i).E)
    (HE : Hid (EntAt w0 T 0 fr sve I)) (hS : FX T wb w0 w0) (c1 c2 c3 c4 c6 c7 c9 c10 c11 c12 c13 c14 c15 c16 c17 c18 c19 c20 c21 c22 c23 c24 c25 c26 c27 c28 c29 c30 c31 c32 c33 c34 c35 c36 c37 c38 c39 c40 c41 c42 c43 c44 c45 c46 c47 c48 c49 c50 c51 c52 c53 c54 c55 c56 c57 c58 c59 c60 c61 c62 c63 c64 c65 c66 c67 c68 c69 c70 c71 c72 c73 c74 c75 c76 c77 c78 c79 c80 c81 c82 c83 c84 c85 c86 c87 c88 c89 c90 c91 c92 : Value)
    (Q : Exit → Act → World → Prop) (hQp : ∀ (k : Nat) (v : Value) (c : List PanicEntry) (a : Act) (w' : World), Q (.panic c) (a.put (some k) v) w' → Q (.panic c) a w')
    (hQn : ∀ (x41 x42 x43 x44 x45 x46 x47 x48 v9 : Value) (w' : World), EntsV w' v9 (k + 1) D → FX T wb w0 w' → Q .normal ⟨#[.slice a n cap, c1, c2, c3, c4, .pointer (some ⟨T, 0, none⟩), c6, c7, .int .i64 (k : Int), v9, c10, c11, c12, c13, c14, c15, c16, c17, c18, c19, c20, c21, c22, c23, c24, c25, c26, c27, c28, c29, c30, c31, c32, c33, c34, c35, c36, c37, c38, c39, c40, x41, x42, x43, x44, x45, x46, x47, x48, c49, c50, c51, c52, c53, c54, c55, c56, c57, c58, c59, c60, c61, c62, c63, c64, c65, c66, c67, c68, c69, c70, c71, c72, c73, c74, c75, c76, c77, c78, c79, c80, c81, c82, c83, c84, c85, c86, c87, c88, c89, c90, c91, c92], []⟩ w') :
    Code.wp Try.prog efCode Q ⟨#[.slice a n cap, c1, c2, c3, c4, .pointer (some ⟨T, 0, none⟩), c6, c7, .int .i64 (k : Int), c9, c10, c11, c12, c13, c14, c15, c16, c17, c18, c19, c20, c21, c22, c23, c24, c25, c26, c27, c28, c29, c30, c31, c32, c33, c34, c35, c36, c37, c38, c39, c40, c41, c42, c43, c44, c45, c46, c47, c48, c49, c50, c51, c52, c53, c54, c55, c56, c57, c58, c59, c60, c61, c62, c63, c64, c65, c66, c67, c68, c69, c70, c71, c72, c73, c74, c75, c76, c77, c78, c79, c80, c81, c82, c83, c84, c85, c86, c87, c88, c89, c90, c91, c92], []⟩ wr := by
  conv => arg 2; whnf
  refine wp_region_held (S := FX T wb w0) (by kernel_rfl) ?_
  change wpAnyH Try.prog Region.Mode.any _ Q (FX T wb w0) _ _ _ wr.drew
  rw [hw0]
  clear hw0 wr
  refine wpAnyH_take (i := 1) (v := ?_) rfl (by kernel_rfl) (by kernel_rfl) (by kernel_rfl) (hQp 42 _) (Or.inl ⟨by rfl, ?_⟩) hS ?_
  rotate_left 1
  · intro w hw; clear hw; go_simp; try with_reducible rfl
  try simp only [Act.put, List.setIfInBounds_toArray, List.set_cons_zero, List.set_cons_succ]
  refine wpAnyH_take (i := 2) (v := ?_) rfl (by kernel_rfl) (by kernel_rfl) (by kernel_rfl) (hQp 43 _) (Or.inl ⟨by rfl, ?_⟩) hS ?_
  rotate_left 1
  · intro w hw; clear hw; go_simp; try with_reducible rfl
  try simp only [Act.put, List.setIfInBounds_toArray, List.set_cons_zero, List.set_cons_succ]
  refine wpAnyH_take (i := 3) (v := ?_) rfl (by kernel_rfl) (by kernel_rfl) (by kernel_rfl) (hQp 44 _) (Or.inl ⟨by rfl, ?_⟩) hS ?_
  rotate_left 1
  · intro w hw; clear hw; go_simp; try with_reducible rfl
  try simp only [Act.put, List.setIfInBounds_toArray, List.set_cons_zero, List.set_cons_succ]
  refine wpAnyH_take (i := 5) rfl (by kernel_rfl) (by kernel_rfl) (by kernel_rfl) (hQp 46 _) (yieldsIf_load_mid (by rfl) 28 _ rfl T 0 rfl (entL fr sve I) _ (fun w hw => (HE.out.block hw.k).range) Try.underlying28 rfl (size_ent _ _ _)) hS ?_
  try simp only [Act.put, List.setIfInBounds_toArray, List.set_cons_zero, List.set_cons_succ]
  refine wpAnyH_ready (rs := [0, 6]) (by kernel_rfl) (by simp) ?_
  refine AllReadyH.cons rfl (fun K hK => ?_) (AllReadyH.cons rfl (fun K hK => ?_) AllReadyH.nil)
  ·
   go_simp
   have hS2 := hS.alloc (Obj.cells #[] 28)
   refine hK.out _ _ hS2 (fun _ => ?_)
   clear hK K
   try simp only [Act.put, List.setIfInBounds_toArray, List.set_cons_zero, List.set_cons_succ]
   have g0g := hS.sz
   have o0 : OwnD (w0.alloc (Obj.cells #[] 28)) (T + 1) (.slice (some ⟨w0.heap.size, 0, none⟩) 0 0) 0 D SV := World.ownsRow_made w0 #[] 0 hS.sz (Nat.zero_le _) rfl
   have l0 : w0.heap.size < (w0.alloc (Obj.cells #[] 28)).heap.size := by simp
   clear hS
   have hS := hS2
   clear hS2
   generalize w0.alloc (Obj.cells #[] 28) = w1 at *
   generalize w0.heap.size = g0 at *
   try clear w0
   obtain ⟨w0, rfl⟩ : ∃ x, x = w1 := ⟨_, rfl⟩
   refine wpAnyH_ready (rs := [4, 6]) (by kernel_rfl) (by simp) ?_
   refine AllReadyH.cons rfl (fun K hK => ?_) (AllReadyH.cons rfl (fun K hK => ?_) AllReadyH.nil)
   ·
    rw [if_pos (by rfl)]
    refine step_ents1 (.tmp 41) (.tmp 44) rfl (T + 1) _ D SV hsl o0 rfl a k cap hk20 rfl hnone (fun h => ?_) hS.sz ?_
    · obtain ⟨b, o, e1, hb, hc⟩ := hcell h
      exact ⟨b, o, e1, fun i hi => (hc i hi).block (hS.bel.block b (by omega))⟩
    intro v4 w1 o4 hg4
    have hS2 := hS.grown hg4 g0 rfl g0g
    refine hK.out _ _ hS2 (fun _ => ?_)
    clear hK K
    try simp only [Act.put, List.setIfInBounds_toArray, List.set_cons_zero, List.set_cons_succ]
    clear hg4 o0 l0
    clear hS
    have hS := hS2
    clear hS2
    try clear w0
    obtain ⟨w0, rfl⟩ : ∃ x, x = w1 := ⟨_, rfl⟩
    refine wpAnyH_ready (rs := [6]) (by kernel_rfl) (by simp) ?_
    refine AllReadyH.cons rfl (fun K hK => ?_) AllReadyH.nil
    rw [if_pos (by rfl)]
    refine wp_run (exec_bs_ent fr sve I (.tmp 46) rfl rfl) ?_
    have hS2 := hS.alloc (Obj.cells (entL fr sve I).toArray 28)
    refine hK.out _ _ hS2 (fun _ => ?_)
    clear hK K
    try simp only [Act.put, List.setIfInBounds_toArray, List.set_cons_zero, List.set_cons_succ]
    have h6 := entAt_new fr sve I 28 w0
    have l6 : w0.heap.size < (w0.alloc (Obj.cells (entL fr sve I).toArray 28)).heap.size := by simp
    have o4' : OwnD (w0.alloc (Obj.cells (entL fr sve I).toArray 28)) (T + 1) v4 k D SV := World.ownsRow.alloc o4 _
    clear hS o4
    have o4 := o4'
    clear o4'
    have hS := hS2
    clear hS2
    generalize w0.alloc (Obj.cells (entL fr sve I).toArray 28) = w1 at *
    generalize w0.heap.size = b6 at *
    try clear w0
    obtain ⟨w0, rfl⟩ : ∃ x, x = w1 := ⟨_, rfl⟩
    refine wpAnyH_ready (rs := [7]) (by kernel_rfl) (by simp) ?_
    refine AllReadyH.cons rfl (fun K hK => ?_) AllReadyH.nil
    rw [if_pos (by rfl)]
    refine step_ents2 (.tmp 45) (.tmp 47) rfl (T + 1) v4 D SV hsl k hk20 o4 rfl b6 rfl (by rw [hDk, hSk]; exact h6) hS.sz ?_
    intro v7 w1 o7 hg7
    have hS2 := hS.grown2 hg7 (fun g hg => (World.ownsRow.lt o4 g hg).1)
    refine hK.out _ _ hS2 (fun _ => ?_)
    clear hK K
    try simp only [Act.put, List.setIfInBounds_toArray, List.set_cons_zero, List.set_cons_succ]
    clear hg7 o4
    clear hS
    have hS := hS2
    clear hS2
    try clear w0
    obtain ⟨w0, rfl⟩ : ∃ x, x = w1 := ⟨_, rfl⟩
    refine wpAnyH_ready (rs := [8]) (by kernel_rfl) (by simp) ?_
    refine AllReadyH.cons rfl (fun K hK => ?_) AllReadyH.nil
    go_simp
    refine hK.out _ _ hS (fun _ => ?_)
    clear hK K
    try simp only [Act.put, List.setIfInBounds_toArray, List.set_cons_zero, List.set_cons_succ]
    refine wpAnyH_done (by kernel_rfl) ?_ _
    exact hQn _ _ _ _ _ _ _ _ v7 w0 (OwnD.ents o7 (by omega) (fun i hi => (hev i (by omega)).below hS.bel hTb)) hS
   ·
    rw [if_pos (by rfl)]
    refine wp_run (exec_bs_ent fr sve I (.tmp 46) rfl rfl) ?_
    have hS2 := hS.alloc (Obj.cells (entL fr sve I).toArray 28)
    refine hK.out _ _ hS2 (fun _ => ?_)
    clear hK K
    try simp only [Act.put, List.setIfInBounds_toArray, List.set_cons_zero, List.set_cons_succ]
    have h6 := entAt_new fr sve I 28 w0
    have l6 : w0.heap.size < (w0.alloc (Obj.cells (entL fr sve I).toArray 28)).heap.size := by simp
    have o0' : OwnD (w0.alloc (Obj.cells (entL fr sve I).toArray 28)) (T + 1) (.slice (some ⟨g0, 0, none⟩) 0 0) 0 D SV := World.ownsRow.alloc o0 _
    have l0' : g0 < (w0.alloc (Obj.cells (entL fr sve I).toArray 28)).heap.size := by simp; omega
    have n06 : g0 ≠ w0.heap.size := by omega
    clear hS o0 l0
    have o0 := o0'
    clear o0'
    have l0 := l0'
    clear l0'
    have hS := hS2
    clear hS2
    generalize w0.alloc (Obj.cells (entL fr sve I).toArray 28) = w1 at *
    generalize w0.heap.size = b6 at *
    try clear w0
    obtain ⟨w0, rfl⟩ : ∃ x, x = w1 := ⟨_, rfl⟩
    refine wpAnyH_ready (rs := [4]) (by kernel_rfl) (by simp) ?_
    refine AllReadyH.cons rfl (fun K hK => ?_) AllReadyH.nil
    rw [if_pos (by rfl)]
    refine step_ents1 (.tmp 41) (.tmp 44) rfl (T + 1) _ D SV hsl o0 rfl a k cap hk20 rfl hnone (fun h => ?_) hS.sz ?_
    · obtain ⟨b, o, e1, hb, hc⟩ := hcell h
      exact ⟨b, o, e1, fun i hi => (hc i hi).block (hS.bel.block b (by omega))⟩
    intro v4 w1 o4 hg4
    have hS2 := hS.grown hg4 g0 rfl g0g
    refine hK.out _ _ hS2 (fun _ => ?_)
    clear hK K
    try simp only [Act.put, List.setIfInBounds_toArray, List.set_cons_zero, List.set_cons_succ]
    have h6' := h6.block (hg4.block b6 l6 (fun e => n06 (by injection e with e; exact e.symm)))
    have l6' := Nat.lt_of_lt_of_le l6 hg4.size
    clear hg4 o0 l0
    clear hS h6 l6
    have h6 := h6'
    clear h6'
    have l6 := l6'
    clear l6'
    have hS := hS2
    clear hS2
    try clear w0
    obtain ⟨w0, rfl⟩ : ∃ x, x = w1 := ⟨_, rfl⟩
    refine wpAnyH_ready (rs := [7]) (by kernel_rfl) (by simp) ?_
    refine AllReadyH.cons rfl (fun K hK => ?_) AllReadyH.nil
    rw [if_pos (by rfl)]
    refine step_ents2 (.tmp 45) (.tmp 47) rfl (T + 1) v4 D SV hsl k hk20 o4 rfl b6 rfl (by rw [hDk, hSk]; exact h6) hS.sz ?_
    intro v7 w1 o7 hg7
    have hS2 := hS.grown2 hg7 (fun g hg => (World.ownsRow.lt o4 g hg).1)
    refine hK.out _ _ hS2 (fun _ => ?_)
    clear hK K
    try simp only [Act.put, List.setIfInBounds_toArray, List.set_cons_zero, List.set_cons_succ]
    clear hg7 o4
    clear hS
    have hS := hS2
    clear hS2
    try clear w0
    obtain ⟨w0, rfl⟩ : ∃ x, x = w1 := ⟨_, rfl⟩
    refine wpAnyH_ready (rs := [8]) (by kernel_rfl) (by simp) ?_
    refine AllReadyH.cons rfl (fun K hK => ?_) AllReadyH.nil
    go_simp
    refine hK.out _ _ hS (fun _ => ?_)
    clear hK K
    try simp only [Act.put, List.setIfInBounds_toArray, List.set_cons_zero, List.set_cons_succ]
    refine wpAnyH_done (by kernel_rfl) ?_ _
    exact hQn _ _ _ _ _ _ _ _ v7 w0 (OwnD.ents o7 (by omega) (fun i hi => (hev i (by omega)).below hS.bel hTb)) hS
  ·
   rw [if_pos (by rfl)]
   refine wp_run (exec_bs_ent fr sve I (.tmp 46) rfl rfl) ?_
   have hS2 := hS.alloc (Obj.cells (entL fr sve I).toArray 28)
   refine hK.out _ _ hS2 (fun _ => ?_)
   clear hK K
   try simp only [Act.put, List.setIfInBounds_toArray, List.set_cons_zero, List.set_cons_succ]
   have h6 := entAt_new fr sve I 28 w0
   have l6 : w0.heap.size < (w0.alloc (Obj.cells (entL fr sve I).toArray 28)).heap.size := by simp
   clear hS
   have hS := hS2
   clear hS2
   generalize w0.alloc (Obj.cells (entL fr sve I).toArray 28) = w1 at *
   generalize w0.heap.size = b6 at *
   try clear w0
   obtain ⟨w0, rfl⟩ : ∃ x, x = w1 := ⟨_, rfl⟩
   refine wpAnyH_ready (rs := [0]) (by kernel_rfl) (by simp) ?_
   refine AllReadyH.cons rfl (fun K hK => ?_) AllReadyH.nil
   go_simp
   have hS2 := hS.alloc (Obj.cells #[] 28)
   refine hK.out _ _ hS2 (fun _ => ?_)
   clear hK K
   try simp only [Act.put, List.setIfInBounds_toArray, List.set_cons_zero, List.set_cons_succ]
   have g0g := hS.sz
   have o0 : OwnD (w0.alloc (Obj.cells #[] 28)) (T + 1) (.slice (some ⟨w0.heap.size, 0, none⟩) 0 0) 0 D SV := World.ownsRow_made w0 #[] 0 hS.sz (Nat.zero_le _) rfl
   have l0 : w0.heap.size < (w0.alloc (Obj.cells #[] 28)).heap.size := by simp
   have h6' := h6.block (Below.heap_alloc w0 (Obj.cells #[] 28) b6 l6)
   have l6' : b6 < (w0.alloc (Obj.cells #[] 28)).heap.size := by simp; omega
   have n06 : w0.heap.size ≠ b6 := by omega
   clear hS h6 l6
   have h6 := h6'
   clear h6'
   have l6 := l6'
   clear l6'
   have hS := hS2
   clear hS2
   generalize w0.alloc (Obj.cells #[] 28) = w1 at *
   generalize w0.heap.size = g0 at *
   try clear w0
   obtain ⟨w0, rfl⟩ : ∃ x, x = w1 := ⟨_, rfl⟩
   refine wpAnyH_ready (rs := [4]) (by kernel_rfl) (by simp) ?_
   refine AllReadyH.cons rfl (fun K hK => ?_) AllReadyH.nil
   rw [if_pos (by rfl)]
   refine step_ents1 (.tmp 41) (.tmp 44) rfl (T + 1) _ D SV hsl o0 rfl a k cap hk20 rfl hnone (fun h => ?_) hS.sz ?_
   · obtain ⟨b, o, e1, hb, hc⟩ := hcell h
     exact ⟨b, o, e1, fun i hi => (hc i hi).block (hS.bel.block b (by omega))⟩
   intro v4 w1 o4 hg4
   have hS2 := hS.grown hg4 g0 rfl g0g
   refine hK.out _ _ hS2 (fun _ => ?_)
   clear hK K
   try simp only [Act.put, List.setIfInBounds_toArray, List.set_cons_zero, List.set_cons_succ]
   have h6' := h6.block (hg4.block b6 l6 (fun e => n06 (by injection e with e; exact e.symm)))
   have l6' := Nat.lt_of_lt_of_le l6 hg4.size
   clear hg4 o0 l0
   clear hS h6 l6
   have h6 := h6'
   clear h6'
   have l6 := l6'
   clear l6'
   have hS := hS2
   clear hS2
   try clear w0
   obtain ⟨w0, rfl⟩ : ∃ x, x = w1 := ⟨_, rfl⟩
   refine wpAnyH_ready (rs := [7]) (by kernel_rfl) (by simp) ?_
   refine AllReadyH.cons rfl (fun K hK => ?_) AllReadyH.nil
   rw [if_pos (by rfl)]
   refine step_ents2 (.tmp 45) (.tmp 47) rfl (T + 1) v4 D SV hsl k hk20 o4 rfl b6 rfl (by rw [hDk, hSk]; exact h6) hS.sz ?_
   intro v7 w1 o7 hg7
   have hS2 := hS.grown2 hg7 (fun g hg => (World.ownsRow.lt o4 g hg).1)
   refine hK.out _ _ hS2 (fun _ => ?_)
   clear hK K
   try simp only [Act.put, List.setIfInBounds_toArray, List.set_cons_zero, List.set_cons_succ]
   clear hg7 o4
   clear hS
   have hS := hS2
   clear hS2
   try clear w0
   obtain ⟨w0, rfl⟩ : ∃ x, x = w1 := ⟨_, rfl⟩
   refine wpAnyH_ready (rs := [8]) (by kernel_rfl) (by simp) ?_
   refine AllReadyH.cons rfl (fun K hK => ?_) AllReadyH.nil
   go_simp
   refine hK.out _ _ hS (fun _ => ?_)
   clear hK K
   try simp only [Act.put, List.setIfInBounds_toArray, List.set_cons_zero, List.set_cons_succ]
   refine wpAnyH_done (by kernel_rfl) ?_ _
   exact hQn _ _ _ _ _ _ _ _ v7 w0 (OwnD.ents o7 (by omega) (fun i hi => (hev i (by omega)).below hS.bel hTb)) hS
end Go.Proofs.Ytmhgkkfeohaojaa
