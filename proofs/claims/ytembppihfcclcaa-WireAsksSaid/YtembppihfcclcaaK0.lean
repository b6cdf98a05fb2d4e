/-
  Entry: the region of Get that draws its order, for every order.
-/
import Derived.Test.YtembppihfcclcaaG03x
namespace Go.Proofs.Ytembppihfcclcaa
set_option linter.unusedVariables false
open Go.ChangeShapes Go.WideShapes Go.ChangeAt Go.RowKit

set_option linter.unusedSimpArgs false
def drawn : Code → Option Code
  | .region id ops true => some (.region id ops true)
  | .loop c => drawn c
  | .seq a b => match drawn a with
    | some c => some c
    | none => drawn b
  | .block _ c => drawn c
  | .scope c => drawn c
  | .cond _ a b => match drawn a with
    | some c => some c
    | none => drawn b
  | _ => none
noncomputable def evCode : Code := ((Try.f67.body.bind drawn).getD .skip)
set_option maxRecDepth 100000 in
set_option maxHeartbeats 4000000 in
theorem ev_region (w wr : World) (bs : List Int) (b o cap m p0 p1 p2 p3 p4 p5 : Nat) (fr : Int) (sv : Value) (I : Nat → Int) (c0 c1 c5 c6 c7 c8 c9 c10 c11 c12 c13 c14 c15 c16 c17 c18 c19 c20 c21 c22 c23 c24 c25 c26 c27 c28 c29 c30 c31 c32 c33 c34 c35 c36 c37 c38 c39 c40 c41 c42 c43 c44 c45 c46 c47 c48 c49 c50 c51 c52 c53 c54 c55 c56 c57 c58 c59 c60 c61 c62 c63 c64 c65 c66 c67 c68 c69 c70 c71 c72 c73 c74 c75 c76 c77 c78 c79 c80 c81 c82 c83 c84 c85 c86 c87 c88 c89 c90 c91 c92 c93 : Value) (HBY : Hid (ByteL bs)) (HBS : Hid (0 < bs.length → b < w.heap.size ∧ BytesAt w b o bs))
    (HG0 : Hid (GS w bs b o cap p0 fr sv m (gE bs) I wr.drew)) (hm1000 : m ≤ 1000) (H1 : Hid (p0 + 1 = p1)) (H2 : Hid (p1 + 1 = p2)) (H3 : Hid (p2 + 1 = p3)) (H4 : Hid (p3 + 1 = p4)) (H5 : Hid (p4 + 1 = p5))
    (X0 : Hid (zz bs p0 = gE bs m 0)) (X1 : Hid (zz bs p1 = gE bs m 1)) (HL2 : Hid (bits .or .i64 (zz bs p2) (IntKind.i64.wrap (zz bs p3 * 256)) = gE bs m 2)) (X4 : Hid (zz bs p4 = gE bs m 3))
    (HT0 : Hid (bs.length ≤ p0 → bs.length < gTot bs)) (HT1 : Hid (bs.length ≤ p1 → bs.length < gTot bs)) (HT2 : Hid (bs.length ≤ p2 → bs.length < gTot bs)) (HT3 : Hid (bs.length ≤ p3 → bs.length < gTot bs)) (HT4 : Hid (bs.length ≤ p4 → bs.length < gTot bs))
    (Q : Exit → Act → World → Prop) (hQbad : ∀ c a w', Q (.panic c) a w' = bodyPostD Try.prog Try.f67 (fun e w' => GetPost w.heap.size bs e w' ∧ Below w.heap.size w w') (.panic c) a w')
    (hQn : ∀ (x35 x36 x37 x38 x39 x40 x41 x42 x43 x44 x45 x46 x47 x48 x49 x50 x51 x52 : Value) (w' : World) (sv' : Value), Hid (GS w bs b o cap p5 fr sv' (m + 1) (gE bs) I w') → Q .normal ⟨#[c0, c1, .pointer (some ⟨w.heap.size, 0, none⟩), .pointer (some ⟨w.heap.size + 1, 0, none⟩), .pointer (some ⟨w.heap.size + 1 + 1, 0, none⟩), c5, c6, c7, c8, c9, c10, c11, c12, c13, c14, c15, c16, c17, c18, c19, c20, c21, c22, c23, c24, c25, c26, c27, c28, c29, c30, c31, c32, c33, c34, x35, x36, x37, x38, x39, x40, x41, x42, x43, x44, x45, x46, x47, x48, x49, x50, x51, x52, c53, c54, c55, c56, c57, c58, c59, c60, c61, c62, c63, c64, c65, c66, c67, c68, c69, c70, c71, c72, c73, c74, c75, c76, c77, c78, c79, c80, c81, c82, c83, c84, c85, c86, c87, c88, c89, c90, c91, c92, c93], [{ target := .fn (.func 68) #[.pointer (some ⟨w.heap.size, 0, none⟩), .pointer (some ⟨w.heap.size + 1, 0, none⟩)], args := #[] }]⟩ w') :
    Code.wp Try.prog evCode Q ⟨#[c0, c1, .pointer (some ⟨w.heap.size, 0, none⟩), .pointer (some ⟨w.heap.size + 1, 0, none⟩), .pointer (some ⟨w.heap.size + 1 + 1, 0, none⟩), c5, c6, c7, c8, c9, c10, c11, c12, c13, c14, c15, c16, c17, c18, c19, c20, c21, c22, c23, c24, c25, c26, c27, c28, c29, c30, c31, c32, c33, c34, c35, c36, c37, c38, c39, c40, c41, c42, c43, c44, c45, c46, c47, c48, c49, c50, c51, c52, c53, c54, c55, c56, c57, c58, c59, c60, c61, c62, c63, c64, c65, c66, c67, c68, c69, c70, c71, c72, c73, c74, c75, c76, c77, c78, c79, c80, c81, c82, c83, c84, c85, c86, c87, c88, c89, c90, c91, c92, c93], [{ target := .fn (.func 68) #[.pointer (some ⟨w.heap.size, 0, none⟩), .pointer (some ⟨w.heap.size + 1, 0, none⟩)], args := #[] }]⟩ wr := by
  have hQput : ∀ (k : Nat), k ≠ 2 ∧ k ≠ 3 → ∀ (v : Value) (c : List PanicEntry) (a : Act) (w' : World), Q (.panic c) (a.put (some k) v) w' → Q (.panic c) a w' := fun k hk v c a w' h => by
    rw [hQbad] at h ⊢
    exact get_put k hk v _ c a w' h
  have cN0 : wr.drew.cell? ⟨w.heap.size, 1, none⟩ = some sv := HG0.out.ent.z1
  conv => arg 2; whnf
  refine wp_region_any (by kernel_rfl) ?_
  change wpAny _ _ _ _ _ _ _ (World.drew _)
  refine wpAny_take (i := 0) (v := ?_) rfl (by kernel_rfl) (by kernel_rfl) (by kernel_rfl) (hQput 35 (by decide) _) (Or.inl ⟨by rfl, ?_⟩) ?_
  rotate_left 1
  · intro w; go_simp; try with_reducible rfl
  try simp only [Act.put, List.setIfInBounds_toArray, List.set_cons_zero, List.set_cons_succ]
  refine wpAny_take (i := 2) (v := ?_) rfl (by kernel_rfl) (by kernel_rfl) (by kernel_rfl) (hQput 37 (by decide) _) (Or.inl ⟨by rfl, ?_⟩) ?_
  rotate_left 1
  · intro w; go_simp; try with_reducible rfl
  try simp only [Act.put, List.setIfInBounds_toArray, List.set_cons_zero, List.set_cons_succ]
  refine wpAny_take (i := 4) (v := ?_) rfl (by kernel_rfl) (by kernel_rfl) (by kernel_rfl) (hQput 39 (by decide) _) (Or.inl ⟨by rfl, ?_⟩) ?_
  rotate_left 1
  · intro w; go_simp; try with_reducible rfl
  try simp only [Act.put, List.setIfInBounds_toArray, List.set_cons_zero, List.set_cons_succ]
  refine wpAny_take (i := 6) (v := ?_) rfl (by kernel_rfl) (by kernel_rfl) (by kernel_rfl) (hQput 41 (by decide) _) (Or.inl ⟨by rfl, ?_⟩) ?_
  rotate_left 1
  · intro w; go_simp; try with_reducible rfl
  try simp only [Act.put, List.setIfInBounds_toArray, List.set_cons_zero, List.set_cons_succ]
  refine wpAny_take (i := 8) (v := ?_) rfl (by kernel_rfl) (by kernel_rfl) (by kernel_rfl) (hQput 43 (by decide) _) (Or.inl ⟨by rfl, ?_⟩) ?_
  rotate_left 1
  · intro w; go_simp; try with_reducible rfl
  try simp only [Act.put, List.setIfInBounds_toArray, List.set_cons_zero, List.set_cons_succ]
  refine wpAny_take (i := 12) (v := ?_) rfl (by kernel_rfl) (by kernel_rfl) (by kernel_rfl) (hQput 47 (by decide) _) (Or.inl ⟨by rfl, ?_⟩) ?_
  rotate_left 1
  · intro w; go_simp; try with_reducible rfl
  try simp only [Act.put, List.setIfInBounds_toArray, List.set_cons_zero, List.set_cons_succ]
  refine wpAny_ready (rs := [1, 3]) (by kernel_rfl) (by simp) ?_
  refine AllReady.cons rfl (fun K hK => ?_) (AllReady.cons rfl (fun K hK => ?_) AllReady.nil)
  · skip
    go_simp
    refine hK _ _ ?_
    clear hK K
    try simp only [Act.put, List.setIfInBounds_toArray, List.set_cons_zero, List.set_cons_succ]
    refine wpAny_ready (rs := [3]) (by kernel_rfl) (by simp) ?_
    refine AllReady.cons rfl (fun K hK => ?_) AllReady.nil
    go_simp
    go_at_call 69
    refine (get_byteH HG0 H1 X0 HBY.out HBS.out).mono ?_
    rintro e w1 (⟨rfl, HG1⟩ | ⟨l, rfl, hg⟩)
    rotate_left
    · exact get_shortH hg HT0 l _ rfl rfl
    have cN1 := HG1.out.ent.z1
    clear HG0 cN0
    refine hK _ _ ?_
    clear hK K
    try simp only [Act.put, List.setIfInBounds_toArray, List.set_cons_zero, List.set_cons_succ]
    refine wpAny_ready (rs := [5]) (by kernel_rfl) (by simp) ?_
    refine AllReady.cons rfl (fun K hK => ?_) AllReady.nil
    go_simp
    go_at_call 69
    refine (get_byteH HG1 H2 X1 HBY.out HBS.out).mono ?_
    rintro e w2 (⟨rfl, HG2⟩ | ⟨l, rfl, hg⟩)
    rotate_left
    · exact get_shortH hg HT1 l _ rfl rfl
    have cN2 := HG2.out.ent.z1
    clear HG1 cN1
    refine hK _ _ ?_
    clear hK K
    try simp only [Act.put, List.setIfInBounds_toArray, List.set_cons_zero, List.set_cons_succ]
    refine wpAny_ready (rs := [7]) (by kernel_rfl) (by simp) ?_
    refine AllReady.cons rfl (fun K hK => ?_) AllReady.nil
    go_simp
    go_at_call 69
    refine (get_byteH HG2 H3 (Lib.hid rfl) HBY.out HBS.out).mono ?_
    rintro e w3 (⟨rfl, HG3⟩ | ⟨l, rfl, hg⟩)
    rotate_left
    · exact get_shortH hg HT2 l _ rfl rfl
    have cN3 := HG3.out.ent.z1
    clear HG2 cN2
    refine hK _ _ ?_
    clear hK K
    try simp only [Act.put, List.setIfInBounds_toArray, List.set_cons_zero, List.set_cons_succ]
    refine wpAny_ready (rs := [9]) (by kernel_rfl) (by simp) ?_
    refine AllReady.cons rfl (fun K hK => ?_) AllReady.nil
    go_simp
    go_at_call 69
    refine (get_byteH HG3 H4 (Lib.hid rfl) HBY.out HBS.out).mono ?_
    rintro e w4 (⟨rfl, HG4⟩ | ⟨l, rfl, hg⟩)
    rotate_left
    · exact get_shortH hg HT3 l _ rfl rfl
    have cN4 := HG4.out.ent.z1
    clear HG3 cN3
    refine hK _ _ ?_
    clear hK K
    try simp only [Act.put, List.setIfInBounds_toArray, List.set_cons_zero, List.set_cons_succ]
    refine wpAny_take (i := 10) (v := ?_) rfl (by kernel_rfl) (by kernel_rfl) (by kernel_rfl) (hQput 45 (by decide) _) (Or.inl ⟨by rfl, ?_⟩) ?_
    rotate_left 1
    · intro w; go_simp; try with_reducible rfl
    try simp only [Act.put, List.setIfInBounds_toArray, List.set_cons_zero, List.set_cons_succ]
    refine wpAny_take (i := 11) (v := ?_) rfl (by kernel_rfl) (by kernel_rfl) (by kernel_rfl) (hQput 46 (by decide) _) (Or.inl ⟨by rfl, ?_⟩) ?_
    rotate_left 1
    · intro w; go_simp; try with_reducible rfl
    try simp only [Act.put, List.setIfInBounds_toArray, List.set_cons_zero, List.set_cons_succ]
    refine wpAny_ready (rs := [13]) (by kernel_rfl) (by simp) ?_
    refine AllReady.cons rfl (fun K hK => ?_) AllReady.nil
    go_simp
    go_at_call 69
    refine (get_byteH HG4 H5 X4 HBY.out HBS.out).mono ?_
    rintro e w5 (⟨rfl, HG5⟩ | ⟨l, rfl, hg⟩)
    rotate_left
    · exact get_shortH hg HT4 l _ rfl rfl
    have cN5 := HG5.out.ent.z1
    clear HG4 cN4
    refine hK _ _ ?_
    clear hK K
    try simp only [Act.put, List.setIfInBounds_toArray, List.set_cons_zero, List.set_cons_succ]
    refine wpAny_take (i := 14) (v := ?_) rfl (by kernel_rfl) (by kernel_rfl) (by kernel_rfl) (hQput 49 (by decide) _) (Or.inl ⟨by rfl, ?_⟩) ?_
    rotate_left 1
    · intro w; go_simp; try with_reducible rfl
    try simp only [Act.put, List.setIfInBounds_toArray, List.set_cons_zero, List.set_cons_succ]
    refine wpAny_ready (rs := [15]) (by kernel_rfl) (by simp) ?_
    refine AllReady.cons rfl (fun K hK => ?_) AllReady.nil
    go_simp
    refine hK _ _ ?_
    clear hK K
    try simp only [Act.put, List.setIfInBounds_toArray, List.set_cons_zero, List.set_cons_succ]
    refine wpAny_ready (rs := [16]) (by kernel_rfl) (by simp) ?_
    refine AllReady.cons rfl (fun K hK => ?_) AllReady.nil
    refine step_app_evG rfl (.tmp 36) (.tmp 50) rfl (by rw [HL2.out]) HG5 hm1000 (by simp [Act.eval, Act.put]) (by simp [Act.eval, Act.put]) ?_
    intro g cp w' hG' hc' hf'
    clear HG5 cN5
    try clear cA
    refine hK _ _ ?_
    clear hK K
    try simp only [Act.put, List.setIfInBounds_toArray, List.set_cons_zero, List.set_cons_succ]
    refine wpAny_take (i := 17) (v := ?_) rfl (by kernel_rfl) (by kernel_rfl) (by kernel_rfl) (hQput 52 (by decide) _) (Or.inl ⟨by rfl, ?_⟩) ?_
    rotate_left 1
    · intro w; go_simp; try with_reducible rfl
    try simp only [Act.put, List.setIfInBounds_toArray, List.set_cons_zero, List.set_cons_succ]
    refine wpAny_ready (rs := [18]) (by kernel_rfl) (by simp) ?_
    refine AllReady.cons rfl (fun K hK => ?_) AllReady.nil
    go_simp
    refine hK _ _ ?_
    clear hK K
    try simp only [Act.put, List.setIfInBounds_toArray, List.set_cons_zero, List.set_cons_succ]
    refine wpAny_done (by kernel_rfl) ?_ _
    exact hQn _ _ _ _ _ _ _ _ _ _ _ _ _ _ _ _ _ _ _ _ hG'
  · skip
    go_simp
    go_at_call 69
    refine (get_byteH HG0 H1 X0 HBY.out HBS.out).mono ?_
    rintro e w1 (⟨rfl, HG1⟩ | ⟨l, rfl, hg⟩)
    rotate_left
    · exact get_shortH hg HT0 l _ rfl rfl
    have cN1 := HG1.out.ent.z1
    clear HG0 cN0
    refine hK _ _ ?_
    clear hK K
    try simp only [Act.put, List.setIfInBounds_toArray, List.set_cons_zero, List.set_cons_succ]
    refine wpAny_ready (rs := [1, 5]) (by kernel_rfl) (by simp) ?_
    refine AllReady.cons rfl (fun K hK => ?_) (AllReady.cons rfl (fun K hK => ?_) AllReady.nil)
    · skip
      go_simp
      refine hK _ _ ?_
      clear hK K
      try simp only [Act.put, List.setIfInBounds_toArray, List.set_cons_zero, List.set_cons_succ]
      refine wpAny_ready (rs := [5]) (by kernel_rfl) (by simp) ?_
      refine AllReady.cons rfl (fun K hK => ?_) AllReady.nil
      go_simp
      go_at_call 69
      refine (get_byteH HG1 H2 X1 HBY.out HBS.out).mono ?_
      rintro e w2 (⟨rfl, HG2⟩ | ⟨l, rfl, hg⟩)
      rotate_left
      · exact get_shortH hg HT1 l _ rfl rfl
      have cN2 := HG2.out.ent.z1
      clear HG1 cN1
      refine hK _ _ ?_
      clear hK K
      try simp only [Act.put, List.setIfInBounds_toArray, List.set_cons_zero, List.set_cons_succ]
      refine wpAny_ready (rs := [7]) (by kernel_rfl) (by simp) ?_
      refine AllReady.cons rfl (fun K hK => ?_) AllReady.nil
      go_simp
      go_at_call 69
      refine (get_byteH HG2 H3 (Lib.hid rfl) HBY.out HBS.out).mono ?_
      rintro e w3 (⟨rfl, HG3⟩ | ⟨l, rfl, hg⟩)
      rotate_left
      · exact get_shortH hg HT2 l _ rfl rfl
      have cN3 := HG3.out.ent.z1
      clear HG2 cN2
      refine hK _ _ ?_
      clear hK K
      try simp only [Act.put, List.setIfInBounds_toArray, List.set_cons_zero, List.set_cons_succ]
      refine wpAny_ready (rs := [9]) (by kernel_rfl) (by simp) ?_
      refine AllReady.cons rfl (fun K hK => ?_) AllReady.nil
      go_simp
      go_at_call 69
      refine (get_byteH HG3 H4 (Lib.hid rfl) HBY.out HBS.out).mono ?_
      rintro e w4 (⟨rfl, HG4⟩ | ⟨l, rfl, hg⟩)
      rotate_left
      · exact get_shortH hg HT3 l _ rfl rfl
      have cN4 := HG4.out.ent.z1
      clear HG3 cN3
      refine hK _ _ ?_
      clear hK K
      try simp only [Act.put, List.setIfInBounds_toArray, List.set_cons_zero, List.set_cons_succ]
      refine wpAny_take (i := 10) (v := ?_) rfl (by kernel_rfl) (by kernel_rfl) (by kernel_rfl) (hQput 45 (by decide) _) (Or.inl ⟨by rfl, ?_⟩) ?_
      rotate_left 1
      · intro w; go_simp; try with_reducible rfl
      try simp only [Act.put, List.setIfInBounds_toArray, List.set_cons_zero, List.set_cons_succ]
      refine wpAny_take (i := 11) (v := ?_) rfl (by kernel_rfl) (by kernel_rfl) (by kernel_rfl) (hQput 46 (by decide) _) (Or.inl ⟨by rfl, ?_⟩) ?_
      rotate_left 1
      · intro w; go_simp; try with_reducible rfl
      try simp only [Act.put, List.setIfInBounds_toArray, List.set_cons_zero, List.set_cons_succ]
      refine wpAny_ready (rs := [13]) (by kernel_rfl) (by simp) ?_
      refine AllReady.cons rfl (fun K hK => ?_) AllReady.nil
      go_simp
      go_at_call 69
      refine (get_byteH HG4 H5 X4 HBY.out HBS.out).mono ?_
      rintro e w5 (⟨rfl, HG5⟩ | ⟨l, rfl, hg⟩)
      rotate_left
      · exact get_shortH hg HT4 l _ rfl rfl
      have cN5 := HG5.out.ent.z1
      clear HG4 cN4
      refine hK _ _ ?_
      clear hK K
      try simp only [Act.put, List.setIfInBounds_toArray, List.set_cons_zero, List.set_cons_succ]
      refine wpAny_take (i := 14) (v := ?_) rfl (by kernel_rfl) (by kernel_rfl) (by kernel_rfl) (hQput 49 (by decide) _) (Or.inl ⟨by rfl, ?_⟩) ?_
      rotate_left 1
      · intro w; go_simp; try with_reducible rfl
      try simp only [Act.put, List.setIfInBounds_toArray, List.set_cons_zero, List.set_cons_succ]
      refine wpAny_ready (rs := [15]) (by kernel_rfl) (by simp) ?_
      refine AllReady.cons rfl (fun K hK => ?_) AllReady.nil
      go_simp
      refine hK _ _ ?_
      clear hK K
      try simp only [Act.put, List.setIfInBounds_toArray, List.set_cons_zero, List.set_cons_succ]
      refine wpAny_ready (rs := [16]) (by kernel_rfl) (by simp) ?_
      refine AllReady.cons rfl (fun K hK => ?_) AllReady.nil
      refine step_app_evG rfl (.tmp 36) (.tmp 50) rfl (by rw [HL2.out]) HG5 hm1000 (by simp [Act.eval, Act.put]) (by simp [Act.eval, Act.put]) ?_
      intro g cp w' hG' hc' hf'
      clear HG5 cN5
      try clear cA
      refine hK _ _ ?_
      clear hK K
      try simp only [Act.put, List.setIfInBounds_toArray, List.set_cons_zero, List.set_cons_succ]
      refine wpAny_take (i := 17) (v := ?_) rfl (by kernel_rfl) (by kernel_rfl) (by kernel_rfl) (hQput 52 (by decide) _) (Or.inl ⟨by rfl, ?_⟩) ?_
      rotate_left 1
      · intro w; go_simp; try with_reducible rfl
      try simp only [Act.put, List.setIfInBounds_toArray, List.set_cons_zero, List.set_cons_succ]
      refine wpAny_ready (rs := [18]) (by kernel_rfl) (by simp) ?_
      refine AllReady.cons rfl (fun K hK => ?_) AllReady.nil
      go_simp
      refine hK _ _ ?_
      clear hK K
      try simp only [Act.put, List.setIfInBounds_toArray, List.set_cons_zero, List.set_cons_succ]
      refine wpAny_done (by kernel_rfl) ?_ _
      exact hQn _ _ _ _ _ _ _ _ _ _ _ _ _ _ _ _ _ _ _ _ hG'
    · skip
      go_simp
      go_at_call 69
      refine (get_byteH HG1 H2 X1 HBY.out HBS.out).mono ?_
      rintro e w2 (⟨rfl, HG2⟩ | ⟨l, rfl, hg⟩)
      rotate_left
      · exact get_shortH hg HT1 l _ rfl rfl
      have cN2 := HG2.out.ent.z1
      clear HG1 cN1
      refine hK _ _ ?_
      clear hK K
      try simp only [Act.put, List.setIfInBounds_toArray, List.set_cons_zero, List.set_cons_succ]
      refine wpAny_ready (rs := [1, 7]) (by kernel_rfl) (by simp) ?_
      refine AllReady.cons rfl (fun K hK => ?_) (AllReady.cons rfl (fun K hK => ?_) AllReady.nil)
      · skip
        go_simp
        refine hK _ _ ?_
        clear hK K
        try simp only [Act.put, List.setIfInBounds_toArray, List.set_cons_zero, List.set_cons_succ]
        refine wpAny_ready (rs := [7]) (by kernel_rfl) (by simp) ?_
        refine AllReady.cons rfl (fun K hK => ?_) AllReady.nil
        go_simp
        go_at_call 69
        refine (get_byteH HG2 H3 (Lib.hid rfl) HBY.out HBS.out).mono ?_
        rintro e w3 (⟨rfl, HG3⟩ | ⟨l, rfl, hg⟩)
        rotate_left
        · exact get_shortH hg HT2 l _ rfl rfl
        have cN3 := HG3.out.ent.z1
        clear HG2 cN2
        refine hK _ _ ?_
        clear hK K
        try simp only [Act.put, List.setIfInBounds_toArray, List.set_cons_zero, List.set_cons_succ]
        refine wpAny_ready (rs := [9]) (by kernel_rfl) (by simp) ?_
        refine AllReady.cons rfl (fun K hK => ?_) AllReady.nil
        go_simp
        go_at_call 69
        refine (get_byteH HG3 H4 (Lib.hid rfl) HBY.out HBS.out).mono ?_
        rintro e w4 (⟨rfl, HG4⟩ | ⟨l, rfl, hg⟩)
        rotate_left
        · exact get_shortH hg HT3 l _ rfl rfl
        have cN4 := HG4.out.ent.z1
        clear HG3 cN3
        refine hK _ _ ?_
        clear hK K
        try simp only [Act.put, List.setIfInBounds_toArray, List.set_cons_zero, List.set_cons_succ]
        refine wpAny_take (i := 10) (v := ?_) rfl (by kernel_rfl) (by kernel_rfl) (by kernel_rfl) (hQput 45 (by decide) _) (Or.inl ⟨by rfl, ?_⟩) ?_
        rotate_left 1
        · intro w; go_simp; try with_reducible rfl
        try simp only [Act.put, List.setIfInBounds_toArray, List.set_cons_zero, List.set_cons_succ]
        refine wpAny_take (i := 11) (v := ?_) rfl (by kernel_rfl) (by kernel_rfl) (by kernel_rfl) (hQput 46 (by decide) _) (Or.inl ⟨by rfl, ?_⟩) ?_
        rotate_left 1
        · intro w; go_simp; try with_reducible rfl
        try simp only [Act.put, List.setIfInBounds_toArray, List.set_cons_zero, List.set_cons_succ]
        refine wpAny_ready (rs := [13]) (by kernel_rfl) (by simp) ?_
        refine AllReady.cons rfl (fun K hK => ?_) AllReady.nil
        go_simp
        go_at_call 69
        refine (get_byteH HG4 H5 X4 HBY.out HBS.out).mono ?_
        rintro e w5 (⟨rfl, HG5⟩ | ⟨l, rfl, hg⟩)
        rotate_left
        · exact get_shortH hg HT4 l _ rfl rfl
        have cN5 := HG5.out.ent.z1
        clear HG4 cN4
        refine hK _ _ ?_
        clear hK K
        try simp only [Act.put, List.setIfInBounds_toArray, List.set_cons_zero, List.set_cons_succ]
        refine wpAny_take (i := 14) (v := ?_) rfl (by kernel_rfl) (by kernel_rfl) (by kernel_rfl) (hQput 49 (by decide) _) (Or.inl ⟨by rfl, ?_⟩) ?_
        rotate_left 1
        · intro w; go_simp; try with_reducible rfl
        try simp only [Act.put, List.setIfInBounds_toArray, List.set_cons_zero, List.set_cons_succ]
        refine wpAny_ready (rs := [15]) (by kernel_rfl) (by simp) ?_
        refine AllReady.cons rfl (fun K hK => ?_) AllReady.nil
        go_simp
        refine hK _ _ ?_
        clear hK K
        try simp only [Act.put, List.setIfInBounds_toArray, List.set_cons_zero, List.set_cons_succ]
        refine wpAny_ready (rs := [16]) (by kernel_rfl) (by simp) ?_
        refine AllReady.cons rfl (fun K hK => ?_) AllReady.nil
        refine step_app_evG rfl (.tmp 36) (.tmp 50) rfl (by rw [HL2.out]) HG5 hm1000 (by simp [Act.eval, Act.put]) (by simp [Act.eval, Act.put]) ?_
        intro g cp w' hG' hc' hf'
        clear HG5 cN5
        try clear cA
        refine hK _ _ ?_
        clear hK K
        try simp only [Act.put, List.setIfInBounds_toArray, List.set_cons_zero, List.set_cons_succ]
        refine wpAny_take (i := 17) (v := ?_) rfl (by kernel_rfl) (by kernel_rfl) (by kernel_rfl) (hQput 52 (by decide) _) (Or.inl ⟨by rfl, ?_⟩) ?_
        rotate_left 1
        · intro w; go_simp; try with_reducible rfl
        try simp only [Act.put, List.setIfInBounds_toArray, List.set_cons_zero, List.set_cons_succ]
        refine wpAny_ready (rs := [18]) (by kernel_rfl) (by simp) ?_
        refine AllReady.cons rfl (fun K hK => ?_) AllReady.nil
        go_simp
        refine hK _ _ ?_
        clear hK K
        try simp only [Act.put, List.setIfInBounds_toArray, List.set_cons_zero, List.set_cons_succ]
        refine wpAny_done (by kernel_rfl) ?_ _
        exact hQn _ _ _ _ _ _ _ _ _ _ _ _ _ _ _ _ _ _ _ _ hG'
      · skip
        go_simp
        go_at_call 69
        refine (get_byteH HG2 H3 (Lib.hid rfl) HBY.out HBS.out).mono ?_
        rintro e w3 (⟨rfl, HG3⟩ | ⟨l, rfl, hg⟩)
        rotate_left
        · exact get_shortH hg HT2 l _ rfl rfl
        have cN3 := HG3.out.ent.z1
        clear HG2 cN2
        refine hK _ _ ?_
        clear hK K
        try simp only [Act.put, List.setIfInBounds_toArray, List.set_cons_zero, List.set_cons_succ]
        refine wpAny_ready (rs := [1, 9]) (by kernel_rfl) (by simp) ?_
        refine AllReady.cons rfl (fun K hK => ?_) (AllReady.cons rfl (fun K hK => ?_) AllReady.nil)
        · skip
          go_simp
          refine hK _ _ ?_
          clear hK K
          try simp only [Act.put, List.setIfInBounds_toArray, List.set_cons_zero, List.set_cons_succ]
          refine wpAny_ready (rs := [9]) (by kernel_rfl) (by simp) ?_
          refine AllReady.cons rfl (fun K hK => ?_) AllReady.nil
          go_simp
          go_at_call 69
          refine (get_byteH HG3 H4 (Lib.hid rfl) HBY.out HBS.out).mono ?_
          rintro e w4 (⟨rfl, HG4⟩ | ⟨l, rfl, hg⟩)
          rotate_left
          · exact get_shortH hg HT3 l _ rfl rfl
          have cN4 := HG4.out.ent.z1
          clear HG3 cN3
          refine hK _ _ ?_
          clear hK K
          try simp only [Act.put, List.setIfInBounds_toArray, List.set_cons_zero, List.set_cons_succ]
          refine wpAny_take (i := 10) (v := ?_) rfl (by kernel_rfl) (by kernel_rfl) (by kernel_rfl) (hQput 45 (by decide) _) (Or.inl ⟨by rfl, ?_⟩) ?_
          rotate_left 1
          · intro w; go_simp; try with_reducible rfl
          try simp only [Act.put, List.setIfInBounds_toArray, List.set_cons_zero, List.set_cons_succ]
          refine wpAny_take (i := 11) (v := ?_) rfl (by kernel_rfl) (by kernel_rfl) (by kernel_rfl) (hQput 46 (by decide) _) (Or.inl ⟨by rfl, ?_⟩) ?_
          rotate_left 1
          · intro w; go_simp; try with_reducible rfl
          try simp only [Act.put, List.setIfInBounds_toArray, List.set_cons_zero, List.set_cons_succ]
          refine wpAny_ready (rs := [13]) (by kernel_rfl) (by simp) ?_
          refine AllReady.cons rfl (fun K hK => ?_) AllReady.nil
          go_simp
          go_at_call 69
          refine (get_byteH HG4 H5 X4 HBY.out HBS.out).mono ?_
          rintro e w5 (⟨rfl, HG5⟩ | ⟨l, rfl, hg⟩)
          rotate_left
          · exact get_shortH hg HT4 l _ rfl rfl
          have cN5 := HG5.out.ent.z1
          clear HG4 cN4
          refine hK _ _ ?_
          clear hK K
          try simp only [Act.put, List.setIfInBounds_toArray, List.set_cons_zero, List.set_cons_succ]
          refine wpAny_take (i := 14) (v := ?_) rfl (by kernel_rfl) (by kernel_rfl) (by kernel_rfl) (hQput 49 (by decide) _) (Or.inl ⟨by rfl, ?_⟩) ?_
          rotate_left 1
          · intro w; go_simp; try with_reducible rfl
          try simp only [Act.put, List.setIfInBounds_toArray, List.set_cons_zero, List.set_cons_succ]
          refine wpAny_ready (rs := [15]) (by kernel_rfl) (by simp) ?_
          refine AllReady.cons rfl (fun K hK => ?_) AllReady.nil
          go_simp
          refine hK _ _ ?_
          clear hK K
          try simp only [Act.put, List.setIfInBounds_toArray, List.set_cons_zero, List.set_cons_succ]
          refine wpAny_ready (rs := [16]) (by kernel_rfl) (by simp) ?_
          refine AllReady.cons rfl (fun K hK => ?_) AllReady.nil
          refine step_app_evG rfl (.tmp 36) (.tmp 50) rfl (by rw [HL2.out]) HG5 hm1000 (by simp [Act.eval, Act.put]) (by simp [Act.eval, Act.put]) ?_
          intro g cp w' hG' hc' hf'
          clear HG5 cN5
          try clear cA
          refine hK _ _ ?_
          clear hK K
          try simp only [Act.put, List.setIfInBounds_toArray, List.set_cons_zero, List.set_cons_succ]
          refine wpAny_take (i := 17) (v := ?_) rfl (by kernel_rfl) (by kernel_rfl) (by kernel_rfl) (hQput 52 (by decide) _) (Or.inl ⟨by rfl, ?_⟩) ?_
          rotate_left 1
          · intro w; go_simp; try with_reducible rfl
          try simp only [Act.put, List.setIfInBounds_toArray, List.set_cons_zero, List.set_cons_succ]
          refine wpAny_ready (rs := [18]) (by kernel_rfl) (by simp) ?_
          refine AllReady.cons rfl (fun K hK => ?_) AllReady.nil
          go_simp
          refine hK _ _ ?_
          clear hK K
          try simp only [Act.put, List.setIfInBounds_toArray, List.set_cons_zero, List.set_cons_succ]
          refine wpAny_done (by kernel_rfl) ?_ _
          exact hQn _ _ _ _ _ _ _ _ _ _ _ _ _ _ _ _ _ _ _ _ hG'
        · skip
          go_simp
          go_at_call 69
          refine (get_byteH HG3 H4 (Lib.hid rfl) HBY.out HBS.out).mono ?_
          rintro e w4 (⟨rfl, HG4⟩ | ⟨l, rfl, hg⟩)
          rotate_left
          · exact get_shortH hg HT3 l _ rfl rfl
          have cN4 := HG4.out.ent.z1
          clear HG3 cN3
          refine hK _ _ ?_
          clear hK K
          try simp only [Act.put, List.setIfInBounds_toArray, List.set_cons_zero, List.set_cons_succ]
          refine wpAny_take (i := 10) (v := ?_) rfl (by kernel_rfl) (by kernel_rfl) (by kernel_rfl) (hQput 45 (by decide) _) (Or.inl ⟨by rfl, ?_⟩) ?_
          rotate_left 1
          · intro w; go_simp; try with_reducible rfl
          try simp only [Act.put, List.setIfInBounds_toArray, List.set_cons_zero, List.set_cons_succ]
          refine wpAny_take (i := 11) (v := ?_) rfl (by kernel_rfl) (by kernel_rfl) (by kernel_rfl) (hQput 46 (by decide) _) (Or.inl ⟨by rfl, ?_⟩) ?_
          rotate_left 1
          · intro w; go_simp; try with_reducible rfl
          try simp only [Act.put, List.setIfInBounds_toArray, List.set_cons_zero, List.set_cons_succ]
          refine wpAny_ready (rs := [1, 13]) (by kernel_rfl) (by simp) ?_
          refine AllReady.cons rfl (fun K hK => ?_) (AllReady.cons rfl (fun K hK => ?_) AllReady.nil)
          · skip
            go_simp
            refine hK _ _ ?_
            clear hK K
            try simp only [Act.put, List.setIfInBounds_toArray, List.set_cons_zero, List.set_cons_succ]
            refine wpAny_ready (rs := [13]) (by kernel_rfl) (by simp) ?_
            refine AllReady.cons rfl (fun K hK => ?_) AllReady.nil
            go_simp
            go_at_call 69
            refine (get_byteH HG4 H5 X4 HBY.out HBS.out).mono ?_
            rintro e w5 (⟨rfl, HG5⟩ | ⟨l, rfl, hg⟩)
            rotate_left
            · exact get_shortH hg HT4 l _ rfl rfl
            have cN5 := HG5.out.ent.z1
            clear HG4 cN4
            refine hK _ _ ?_
            clear hK K
            try simp only [Act.put, List.setIfInBounds_toArray, List.set_cons_zero, List.set_cons_succ]
            refine wpAny_take (i := 14) (v := ?_) rfl (by kernel_rfl) (by kernel_rfl) (by kernel_rfl) (hQput 49 (by decide) _) (Or.inl ⟨by rfl, ?_⟩) ?_
            rotate_left 1
            · intro w; go_simp; try with_reducible rfl
            try simp only [Act.put, List.setIfInBounds_toArray, List.set_cons_zero, List.set_cons_succ]
            refine wpAny_ready (rs := [15]) (by kernel_rfl) (by simp) ?_
            refine AllReady.cons rfl (fun K hK => ?_) AllReady.nil
            go_simp
            refine hK _ _ ?_
            clear hK K
            try simp only [Act.put, List.setIfInBounds_toArray, List.set_cons_zero, List.set_cons_succ]
            refine wpAny_ready (rs := [16]) (by kernel_rfl) (by simp) ?_
            refine AllReady.cons rfl (fun K hK => ?_) AllReady.nil
            refine step_app_evG rfl (.tmp 36) (.tmp 50) rfl (by rw [HL2.out]) HG5 hm1000 (by simp [Act.eval, Act.put]) (by simp [Act.eval, Act.put]) ?_
            intro g cp w' hG' hc' hf'
            clear HG5 cN5
            try clear cA
            refine hK _ _ ?_
            clear hK K
            try simp only [Act.put, List.setIfInBounds_toArray, List.set_cons_zero, List.set_cons_succ]
            refine wpAny_take (i := 17) (v := ?_) rfl (by kernel_rfl) (by kernel_rfl) (by kernel_rfl) (hQput 52 (by decide) _) (Or.inl ⟨by rfl, ?_⟩) ?_
            rotate_left 1
            · intro w; go_simp; try with_reducible rfl
            try simp only [Act.put, List.setIfInBounds_toArray, List.set_cons_zero, List.set_cons_succ]
            refine wpAny_ready (rs := [18]) (by kernel_rfl) (by simp) ?_
            refine AllReady.cons rfl (fun K hK => ?_) AllReady.nil
            go_simp
            refine hK _ _ ?_
            clear hK K
            try simp only [Act.put, List.setIfInBounds_toArray, List.set_cons_zero, List.set_cons_succ]
            refine wpAny_done (by kernel_rfl) ?_ _
            exact hQn _ _ _ _ _ _ _ _ _ _ _ _ _ _ _ _ _ _ _ _ hG'
          · skip
            go_simp
            go_at_call 69
            refine (get_byteH HG4 H5 X4 HBY.out HBS.out).mono ?_
            rintro e w5 (⟨rfl, HG5⟩ | ⟨l, rfl, hg⟩)
            rotate_left
            · exact get_shortH hg HT4 l _ rfl rfl
            have cN5 := HG5.out.ent.z1
            clear HG4 cN4
            refine hK _ _ ?_
            clear hK K
            try simp only [Act.put, List.setIfInBounds_toArray, List.set_cons_zero, List.set_cons_succ]
            refine wpAny_take (i := 14) (v := ?_) rfl (by kernel_rfl) (by kernel_rfl) (by kernel_rfl) (hQput 49 (by decide) _) (Or.inl ⟨by rfl, ?_⟩) ?_
            rotate_left 1
            · intro w; go_simp; try with_reducible rfl
            try simp only [Act.put, List.setIfInBounds_toArray, List.set_cons_zero, List.set_cons_succ]
            refine wpAny_ready (rs := [1, 15]) (by kernel_rfl) (by simp) ?_
            refine AllReady.cons rfl (fun K hK => ?_) (AllReady.cons rfl (fun K hK => ?_) AllReady.nil)
            · skip
              go_simp
              refine hK _ _ ?_
              clear hK K
              try simp only [Act.put, List.setIfInBounds_toArray, List.set_cons_zero, List.set_cons_succ]
              refine wpAny_ready (rs := [15]) (by kernel_rfl) (by simp) ?_
              refine AllReady.cons rfl (fun K hK => ?_) AllReady.nil
              go_simp
              refine hK _ _ ?_
              clear hK K
              try simp only [Act.put, List.setIfInBounds_toArray, List.set_cons_zero, List.set_cons_succ]
              refine wpAny_ready (rs := [16]) (by kernel_rfl) (by simp) ?_
              refine AllReady.cons rfl (fun K hK => ?_) AllReady.nil
              refine step_app_evG rfl (.tmp 36) (.tmp 50) rfl (by rw [HL2.out]) HG5 hm1000 (by simp [Act.eval, Act.put]) (by simp [Act.eval, Act.put]) ?_
              intro g cp w' hG' hc' hf'
              clear HG5 cN5
              try clear cA
              refine hK _ _ ?_
              clear hK K
              try simp only [Act.put, List.setIfInBounds_toArray, List.set_cons_zero, List.set_cons_succ]
              refine wpAny_take (i := 17) (v := ?_) rfl (by kernel_rfl) (by kernel_rfl) (by kernel_rfl) (hQput 52 (by decide) _) (Or.inl ⟨by rfl, ?_⟩) ?_
              rotate_left 1
              · intro w; go_simp; try with_reducible rfl
              try simp only [Act.put, List.setIfInBounds_toArray, List.set_cons_zero, List.set_cons_succ]
              refine wpAny_ready (rs := [18]) (by kernel_rfl) (by simp) ?_
              refine AllReady.cons rfl (fun K hK => ?_) AllReady.nil
              go_simp
              refine hK _ _ ?_
              clear hK K
              try simp only [Act.put, List.setIfInBounds_toArray, List.set_cons_zero, List.set_cons_succ]
              refine wpAny_done (by kernel_rfl) ?_ _
              exact hQn _ _ _ _ _ _ _ _ _ _ _ _ _ _ _ _ _ _ _ _ hG'
            · skip
              go_simp
              refine hK _ _ ?_
              clear hK K
              try simp only [Act.put, List.setIfInBounds_toArray, List.set_cons_zero, List.set_cons_succ]
              have cA := fun o => (World.cell?_of_block (Below.heap_alloc w5 o w.heap.size (by have := HG5.out.rd.lt; omega))).trans cN5
              refine wpAny_ready (rs := [1]) (by kernel_rfl) (by simp) ?_
              refine AllReady.cons rfl (fun K hK => ?_) AllReady.nil
              go_simp
              refine hK _ _ ?_
              clear hK K
              try simp only [Act.put, List.setIfInBounds_toArray, List.set_cons_zero, List.set_cons_succ]
              refine wpAny_ready (rs := [16]) (by kernel_rfl) (by simp) ?_
              refine AllReady.cons rfl (fun K hK => ?_) AllReady.nil
              refine step_app_evG rfl (.tmp 36) (.tmp 50) rfl (by rw [HL2.out]) HG5 hm1000 (by simp [Act.eval, Act.put]) (by simp [Act.eval, Act.put]) ?_
              intro g cp w' hG' hc' hf'
              clear HG5 cN5
              try clear cA
              refine hK _ _ ?_
              clear hK K
              try simp only [Act.put, List.setIfInBounds_toArray, List.set_cons_zero, List.set_cons_succ]
              refine wpAny_take (i := 17) (v := ?_) rfl (by kernel_rfl) (by kernel_rfl) (by kernel_rfl) (hQput 52 (by decide) _) (Or.inl ⟨by rfl, ?_⟩) ?_
              rotate_left 1
              · intro w; go_simp; try with_reducible rfl
              try simp only [Act.put, List.setIfInBounds_toArray, List.set_cons_zero, List.set_cons_succ]
              refine wpAny_ready (rs := [18]) (by kernel_rfl) (by simp) ?_
              refine AllReady.cons rfl (fun K hK => ?_) AllReady.nil
              go_simp
              refine hK _ _ ?_
              clear hK K
              try simp only [Act.put, List.setIfInBounds_toArray, List.set_cons_zero, List.set_cons_succ]
              refine wpAny_done (by kernel_rfl) ?_ _
              exact hQn _ _ _ _ _ _ _ _ _ _ _ _ _ _ _ _ _ _ _ _ hG'
end Go.Proofs.Ytembppihfcclcaa
