/-
  Wire: WireKinds's walk.
-/
import Derived.Test.YtembppihfcclcaaNJ
import Derived.Deep.DeepCutAuto
namespace Go.Proofs.Ytembppihfcclcaa
set_option linter.unusedVariables false
open Go.ChangeShapes Go.WideShapes Go.ChangeAt Go.RowKit

set_option linter.unusedSimpArgs false
/-- The message at the block behind w; its rows do not lie in that block. -/
structure KQ (w : World) (M : Msg) (wx : World) : Prop where
  ex : ∃ iv lv dv, MsgAt wx w.heap.size M.F iv lv dv ∧ ∀ w', (∀ b, b < wx.heap.size → b ≠ w.heap.size → w'.heap[b]? = wx.heap[b]?) → wx.heap.size ≤ w'.heap.size → RowsV w' iv lv dv M
  th : wx.there w.heap.size 0 16
  bel : Below w.heap.size w wx
theorem bytesV_of {w w' : World} {B n : Nat} {bs : List Int} (h : BytesV w (.slice (some ⟨B, 0, none⟩) n n) bs) (hk : w'.heap[B]? = w.heap[B]?) (hs : w.heap.size ≤ w'.heap.size) : BytesV w' (.slice (some ⟨B, 0, none⟩) n n) bs := bytesV_put h hk hs
def k0F (k : Nat) : Nat → Int := fun j => if j = 0 then (k : Int) else 0
theorem kq0 {w w1 : World} {B n k : Nat} {lv : Value} {D : Nat → Ent} (h : LG w w.heap.size B (k0F k) (.slice none 0 0) 0 D w1) (h2 : k ≠ 2) (h4 : k ≠ 4) (h5 : k ≠ 5) (h7 : k ≠ 7) : KQ w (kM k) w1 := by
  refine ⟨⟨.slice none 0 0, .slice none 0 0, .slice none 0 0, h.msg.congr (fun j hj => ?_), fun w' _ _ => ?_⟩, h.th, h.bel⟩
  · show k0F k j = kF k j
    unfold k0F kF
    by_cases h0 : j = 0
    · rw [if_pos h0, if_pos h0]
    · rw [if_neg h0, if_neg h0, if_neg (by omega), if_neg (by omega)]
  · unfold kM
    rw [if_neg h4, if_neg h5, if_neg h7]
    exact rows_nil w' (kF k)
theorem kq5 {w w1 : World} {lb : Nat} (he : EntAt w1 lb 0 0 (.slice none 0 0) (fun _ => 0)) (ht : w1.there lb 0 26) (hs : lb < w1.heap.size) (hm : MsgAt w1 w.heap.size (k0F 5) (.slice none 0 0) (.slice none 0 0) (.slice none 0 0)) (hth : w1.there w.heap.size 0 16) (hb : Below w.heap.size w w1) (hT : w.heap.size < lb) :
    KQ w (kM 5) (w1.setCell ⟨w.heap.size, 14, none⟩ (.slice (some ⟨lb, 0, none⟩) 1 1)) := by
  have hOn := (Only.refl w.heap.size w1).setCell (p := ⟨w.heap.size, 14, none⟩) rfl (.slice (some ⟨lb, 0, none⟩) 1 1)
  have hnil : ∀ W, EvsV W (.slice none 0 0) 0 (fun _ _ => 0) := fun W => ⟨none, 0, rfl, Nat.le_refl _, Nat.zero_le _, fun h => absurd h (by omega)⟩
  refine ⟨⟨_, _, _, (hm.set 14 (F' := kF 5) (iv' := .slice none 0 0) (lv' := .slice (some ⟨lb, 0, none⟩) 1 1) (dv' := .slice none 0 0) (fun j hj => ?_)), fun w' hk hsz => ?_⟩, there_setW hth, hb.setCell (p := ⟨w.heap.size, 14, none⟩) (Nat.le_refl _) _⟩
  · unfold msgF
    by_cases h13 : j = 13
    · rw [if_pos h13, if_neg (by omega), if_pos h13]
    · by_cases h14 : j = 14
      · rw [if_neg h13, if_pos h14, if_pos h14]
      · rw [if_neg h13, if_neg h14, if_neg h14, if_neg h13, if_neg h14]
        by_cases h15 : j = 15
        · rw [if_pos h15, if_pos h15]
        · rw [if_neg h15, if_neg h15]
          congr 1
          unfold kF k0F
          by_cases h0 : j = 0
          · rw [if_pos h0, if_pos h0]
          · rw [if_neg h0, if_neg h0, if_neg (by omega), if_neg (by omega)]
  · have e : w'.heap[lb]? = w1.heap[lb]? := (hk lb (by rw [hOn.size]; exact hs) (by omega)).trans (hOn.block lb (by omega))
    exact ⟨(rows_nil w' zF).i, EntsV.one (he.block e) (hnil w'), bytesV_nil w'⟩
theorem kq7 {w w1 : World} {lb : Nat} (hr : BytesV w1 (.slice (some ⟨lb, 0, none⟩) 1 1) [1]) (hs : lb < w1.heap.size) (hm : MsgAt w1 w.heap.size (k0F 7) (.slice none 0 0) (.slice none 0 0) (.slice none 0 0)) (hth : w1.there w.heap.size 0 16) (hb : Below w.heap.size w w1) (hT : w.heap.size < lb) :
    KQ w (kM 7) ((w1.setCell ⟨w.heap.size, 10, none⟩ (.int .i64 1)).setCell ⟨w.heap.size, 15, none⟩ (.slice (some ⟨lb, 0, none⟩) 1 1)) := by
  have hm1 := hm.up 10 (by omega) 1
  have hOn1 := (Only.refl w.heap.size w1).setCell (p := ⟨w.heap.size, 10, none⟩) rfl (.int .i64 1)
  have hOn2 := hOn1.setCell (p := ⟨w.heap.size, 15, none⟩) rfl (.slice (some ⟨lb, 0, none⟩) 1 1)
  refine ⟨⟨_, _, _, (hm1.set 15 (F' := kF 7) (iv' := .slice none 0 0) (lv' := .slice none 0 0) (dv' := .slice (some ⟨lb, 0, none⟩) 1 1) (fun j hj => ?_)), fun w' hk hsz => ?_⟩, there_setW (there_setW hth), (hb.setCell (p := ⟨w.heap.size, 10, none⟩) (Nat.le_refl _) _).setCell (p := ⟨w.heap.size, 15, none⟩) (Nat.le_refl _) _⟩
  · unfold msgF
    by_cases h13 : j = 13
    · rw [if_pos h13, if_neg (by omega), if_pos h13]
    · by_cases h14 : j = 14
      · rw [if_neg h13, if_pos h14, if_neg (by omega), if_neg h13, if_pos h14]
      · by_cases h15 : j = 15
        · rw [if_neg h13, if_neg h14, if_pos h15, if_pos h15]
        · rw [if_neg h13, if_neg h14, if_neg h15, if_neg h15, if_neg h13, if_neg h14, if_neg h15]
          congr 1
          unfold kF uF k0F
          by_cases h0 : j = 0
          · rw [if_pos h0, if_neg (by omega), if_pos h0]
          · by_cases h10 : j = 10
            · rw [if_neg h0, if_neg (by omega), if_pos (by omega), if_pos h10]
            · rw [if_neg h0, if_neg (by omega), if_neg (by omega), if_neg h10, if_neg h0]
  · have e : w'.heap[lb]? = w1.heap[lb]? := (hk lb (by rw [hOn2.size]; exact hs) (by omega)).trans (hOn2.block lb (by omega))
    exact ⟨(rows_nil w' zF).i, (rows_nil w' zF).l, bytesV_put hr e (Nat.le_trans (Nat.le_of_eq hOn2.size.symm) hsz)⟩
theorem kq4 {w w1 : World} {lb : Nat} (hr : InpsV w1 (.slice (some ⟨lb, 0, none⟩) 1 1) 1 (fun _ => 0)) (hs : lb < w1.heap.size) (hm : MsgAt w1 w.heap.size (k0F 4) (.slice none 0 0) (.slice none 0 0) (.slice none 0 0)) (hth : w1.there w.heap.size 0 16) (hb : Below w.heap.size w w1) (hT : w.heap.size < lb) :
    KQ w (kM 4) ((w1.setCell ⟨w.heap.size, 6, none⟩ (.int .i64 1)).setCell ⟨w.heap.size, 13, none⟩ (.slice (some ⟨lb, 0, none⟩) 1 1)) := by
  have hm1 := hm.up 6 (by omega) 1
  have hOn1 := (Only.refl w.heap.size w1).setCell (p := ⟨w.heap.size, 6, none⟩) rfl (.int .i64 1)
  have hOn2 := hOn1.setCell (p := ⟨w.heap.size, 13, none⟩) rfl (.slice (some ⟨lb, 0, none⟩) 1 1)
  refine ⟨⟨_, _, _, (hm1.set 13 (F' := kF 4) (iv' := .slice (some ⟨lb, 0, none⟩) 1 1) (lv' := .slice none 0 0) (dv' := .slice none 0 0) (fun j hj => ?_)), fun w' hk hsz => ?_⟩, there_setW (there_setW hth), (hb.setCell (p := ⟨w.heap.size, 6, none⟩) (Nat.le_refl _) _).setCell (p := ⟨w.heap.size, 13, none⟩) (Nat.le_refl _) _⟩
  · unfold msgF
    by_cases h13 : j = 13
    · rw [if_pos h13, if_pos h13]
    · rw [if_neg h13, if_neg h13, if_neg h13]
      by_cases h14 : j = 14
      · rw [if_pos h14, if_pos h14]
      · rw [if_neg h14, if_neg h14]
        by_cases h15 : j = 15
        · rw [if_pos h15, if_pos h15]
        · rw [if_neg h15, if_neg h15]
          congr 1
          unfold kF uF k0F
          by_cases h0 : j = 0
          · rw [if_pos h0, if_neg (by omega), if_pos h0]
          · by_cases h6 : j = 6
            · rw [if_neg h0, if_pos (by omega), if_pos h6]
            · rw [if_neg h0, if_neg (by omega), if_neg (by omega), if_neg h6, if_neg h0]
  · have e : w'.heap[lb]? = w1.heap[lb]? := (hk lb (by rw [hOn2.size]; exact hs) (by omega)).trans (hOn2.block lb (by omega))
    exact ⟨inpsV_put hr e (Nat.le_trans (Nat.le_of_eq hOn2.size.symm) hsz), (rows_nil w' zF).l, bytesV_nil w'⟩
theorem KQ.drew {w wx : World} {M : Msg} (h : KQ w M wx) : KQ w M wx.drew := by
  obtain ⟨⟨iv, lv, dv, h1, h2⟩, h3, h4⟩ := h
  exact ⟨⟨iv, lv, dv, h1.block rfl, fun w' a b => h2 w' a b⟩, h3, h4.drew⟩
theorem KQ.below {w wx wy : World} {M : Msg} (h : KQ w M wx) (hb : Below wx.heap.size wx wy) : KQ w M wy := by
  obtain ⟨⟨iv, lv, dv, h1, h2⟩, h3, h4⟩ := h
  have hlt := h1.lt
  exact ⟨⟨iv, lv, dv, h1.block (hb.block _ hlt), fun w' a b => h2 w' (fun q hq hne => (a q (Nat.lt_of_lt_of_le hq hb.size) hne).trans (hb.block q hq)) (Nat.le_trans hb.size b)⟩, there_block h3 (hb.block _ hlt), h4.trans (hb.mono (Nat.le_of_lt hlt))⟩
def kStr (k : Nat) : ByteArray := ⟨((kS k).map UInt8.ofNat).toArray⟩
theorem kS_bd (k : Nat) (hk : k ≤ 14) : (kS k).length ≤ 6 ∧ ∀ x ∈ kS k, x < 256 := by
  have h0 : (List.range 15).all (fun k => decide ((kS k).length ≤ 6) && (kS k).all (fun x => decide (x < 256))) = true := by kernel_rfl
  have h1 := List.all_eq_true.1 h0 k (List.mem_range.2 (by omega))
  rw [Bool.and_eq_true, decide_eq_true_eq] at h1
  exact ⟨h1.1, fun x hx => by simpa using List.all_eq_true.1 h1.2 x hx⟩
theorem kStr_get (k i : Nat) (hk : k ≤ 14) (hi : i < (kS k).length) (h : i < (kStr k).size) : ((kStr k)[i]'h).toNat = (kS k).getD i 0 := by
  have g : ∀ (L : List UInt8) (h1 : i < (⟨L.toArray⟩ : ByteArray).size) (h2 : i < L.length), (⟨L.toArray⟩ : ByteArray)[i]'h1 = L[i] := fun L h1 h2 => rfl
  have e : (kStr k)[i]'h = UInt8.ofNat ((kS k)[i]) := (g ((kS k).map UInt8.ofNat) h (by rw [List.length_map]; exact hi)).trans (List.getElem_map _)
  rw [e, UInt8.toNat_ofNat', Nat.mod_eq_of_lt ((kS_bd k hk).2 _ (List.getElem_mem hi)), List.getD_eq_getElem?_getD, List.getElem?_eq_getElem hi]
  rfl
theorem KQ.num {w wx : World} {M : Msg} (h : KQ w M wx) (c : Nat) (hc : c < 13) (v : Int) : KQ w ⟨uF M.F c v, M.ni, M.I, M.nl, M.D, M.d⟩ (wx.setCell ⟨w.heap.size, c, none⟩ (.int (Ytembppihfcclcaa.mk c) v)) := by
  obtain ⟨⟨iv, lv, dv, h1, h2⟩, h3, h4⟩ := h
  have hOn := (Only.refl w.heap.size wx).setCell (p := ⟨w.heap.size, c, none⟩) rfl (.int (Ytembppihfcclcaa.mk c) v)
  refine ⟨⟨iv, lv, dv, h1.up c hc v, fun w' a b => ?_⟩, there_setW h3, h4.setCell (p := ⟨w.heap.size, c, none⟩) (Nat.le_refl _) _⟩
  have hR := h2 w' (fun q hq hne => (a q (by rw [hOn.size]; exact hq) hne).trans (hOn.block q hne)) (Nat.le_trans (Nat.le_of_eq hOn.size.symm) b)
  exact ⟨hR.i, hR.l, hR.d⟩
/-- For kind 5: where the one entry of its log lies. -/
def KL (k T fr : Nat) (wx : World) : Prop := k = 5 → ∃ lb, T < lb ∧ lb < wx.heap.size ∧ wx.cell? ⟨T, 14, none⟩ = some (.slice (some ⟨lb, 0, none⟩) 1 1) ∧ EntAt wx lb 0 (fr : Int) (.slice none 0 0) (fun _ => 0) ∧ wx.there lb 0 26
theorem KL.below {k T fr : Nat} {wx wy : World} (h : KL k T fr wx) (hb : Below wx.heap.size wx wy) : KL k T fr wy := fun hk => by
  obtain ⟨lb, h1, h2, h3, h4, h5⟩ := h hk
  have := hb.size
  exact ⟨lb, h1, by omega, (World.cell?_of_block (hb.block T (by omega))).trans h3, h4.block (hb.block lb h2), there_block h5 (hb.block lb h2)⟩
structure K1 (w : World) (k : Nat) (wx : World) : Prop where
  q : KQ w (kM k) wx
  l : KL k w.heap.size 0 wx
theorem K1.below {w wx wy : World} {k : Nat} (h : K1 w k wx) (hb : Below wx.heap.size wx wy) : K1 w k wy := ⟨h.q.below hb, h.l.below hb⟩
theorem kl5 {w1 : World} {T lb : Nat} (he : EntAt w1 lb 0 0 (.slice none 0 0) (fun _ => 0)) (ht : w1.there lb 0 26) (hs : lb < w1.heap.size) (hm : MsgAt w1 T (k0F 5) (.slice none 0 0) (.slice none 0 0) (.slice none 0 0)) (hT : T < lb) : KL 5 T 0 (w1.setCell ⟨T, 14, none⟩ (.slice (some ⟨lb, 0, none⟩) 1 1)) := fun _ => by
  have hOn := (Only.refl T w1).setCell (p := ⟨T, 14, none⟩) rfl (.slice (some ⟨lb, 0, none⟩) 1 1)
  exact ⟨lb, hT, by rw [hOn.size]; exact hs, World.cell?_setCell_same _ _ _ hm.c14, he.block (hOn.block lb (by omega)), there_block ht (hOn.block lb (by omega))⟩
def nE4 : Nat → Ent := fun _ => ⟨4, 0, fun _ _ => 0, fun _ => 0⟩
/-- The message whose Frame is turned, and of whose log j entries are. -/
def kfM (k j : Nat) : Msg := ⟨uF (kF k) 7 4, (kM k).ni, fun _ => 0, (kM k).nl, if j = 0 then (fun _ => nE) else nE4, (kM k).d⟩
structure K2 (w : World) (k j : Nat) (wx : World) : Prop where
  q : KQ w (kfM k j) wx
  l : KL k w.heap.size (if j = 0 then 0 else 4) wx
theorem K1.start {w wx : World} {k : Nat} (h : K1 w k wx) : K2 w k 0 (wx.setCell ⟨w.heap.size, 7, none⟩ (.int .i64 4)) := by
  refine ⟨h.q.num 7 (by omega) 4, fun hk => ?_⟩
  obtain ⟨lb, h1, h2, h3, h4, h5⟩ := h.l hk
  have hOn := (Only.refl w.heap.size wx).setCell (p := ⟨w.heap.size, 7, none⟩) rfl (.int .i64 4)
  exact ⟨lb, h1, by rw [hOn.size]; exact h2, (World.cell?_setCell_other _ _ _ _ (by simp)).trans h3, h4.block (hOn.block lb (by omega)), there_block h5 (hOn.block lb (by omega))⟩
theorem KQ.nolog {w wx : World} {M : Msg} (h : KQ w M wx) (h0 : M.nl = 0) (D' : Nat → Ent) : KQ w ⟨M.F, M.ni, M.I, M.nl, D', M.d⟩ wx := by
  obtain ⟨⟨iv, lv, dv, h1, h2⟩, h3, h4⟩ := h
  refine ⟨⟨iv, lv, dv, h1, fun w' a b => ⟨(h2 w' a b).i, ?_, (h2 w' a b).d⟩⟩, h3, h4⟩
  obtain ⟨a, cap, e, k1, k2, -⟩ := (h2 w' a b).l
  exact ⟨a, cap, e, k1, k2, fun h => absurd h (by show ¬ 0 < M.nl; omega)⟩
theorem K2.other {w wx : World} {k : Nat} (h : K2 w k 0 wx) (hk : k ≠ 5) : KQ w (kpM k 2) wx := by
  have h0 : (kM k).nl = 0 := by show (if k = 5 then 1 else 0) = 0; rw [if_neg hk]
  exact h.q.nolog h0 nE4
theorem K2.done {w wx : World} (h : K2 w 5 1 wx) : KQ w (kpM 5 2) wx := h.q
/-- The one entry's Frame is turned. -/
theorem K2.turn {w wx : World} {lb : Nat} (h : K2 w 5 0 wx) (h1 : w.heap.size < lb) (h2 : lb < wx.heap.size) (h3 : wx.cell? ⟨w.heap.size, 14, none⟩ = some (.slice (some ⟨lb, 0, none⟩) 1 1)) (h4 : EntAt wx lb 0 0 (.slice none 0 0) (fun _ => 0)) (h5 : wx.there lb 0 26) : K2 w 5 1 (wx.setCell ⟨lb, 0, none⟩ (.int .i64 4)) := by
  have hnil : ∀ W, EvsV W (.slice none 0 0) 0 (fun _ _ => 0) := fun W => ⟨none, 0, rfl, Nat.le_refl _, Nat.zero_le _, fun h => absurd h (by omega)⟩
  have hOn := (Only.refl lb wx).setCell (p := ⟨lb, 0, none⟩) rfl (.int .i64 4)
  have hE : EntAt (wx.setCell ⟨lb, 0, none⟩ (.int .i64 4)) lb 0 4 (.slice none 0 0) (fun _ => 0) := h4.set 0 (fun j _ => by
    unfold entF
    by_cases h0 : j = 0
    · rw [if_pos h0, if_pos h0]
    · rw [if_neg h0, if_neg h0, if_neg h0])
  have hT : (wx.setCell ⟨lb, 0, none⟩ (.int .i64 4)).heap[w.heap.size]? = wx.heap[w.heap.size]? := hOn.block _ (by omega)
  obtain ⟨⟨iv, lv, dv, g1, g2⟩, g3, g4⟩ := h.q
  have hR := g2 wx (fun _ _ _ => rfl) (Nat.le_refl _)
  have elv : lv = .slice (some ⟨lb, 0, none⟩) 1 1 := by have := g1.c14.symm.trans h3; injection this
  subst elv
  refine ⟨⟨⟨iv, .slice (some ⟨lb, 0, none⟩) 1 1, dv, g1.block hT, fun w' a b => ⟨?_, ?_, ?_⟩⟩, there_block g3 hT, g4.trans (hOn.below (by omega))⟩, fun _ => ⟨lb, h1, by rw [hOn.size]; exact h2, (World.cell?_of_block hT).trans h3, hE, there_set h5⟩⟩
  · obtain ⟨a, cap, e, k1, k2, -⟩ := hR.i
    exact ⟨a, cap, e, k1, k2, fun h => absurd h (Nat.lt_irrefl 0)⟩
  · exact EntsV.one (hE.block (a lb (by rw [hOn.size]; exact h2) (by omega))) (hnil w')
  · obtain ⟨a, cap, e, k1, k2, -⟩ := hR.d
    exact ⟨a, cap, e, k1, k2, fun h => absurd h (Nat.lt_irrefl 0)⟩
theorem MsgAt.setLK {w : World} {b : Nat} {F : Nat → Int} {iv lv dv : Value} (h : MsgAt w b F iv lv dv) (v : Value) : MsgAt (w.setCell ⟨b, 14, none⟩ v) b F iv v dv := by
  refine h.set 14 (fun j hj => ?_)
  unfold msgF
  by_cases h13 : j = 13
  · rw [if_pos h13, if_neg (by omega), if_pos h13]
  · by_cases h14 : j = 14
    · rw [if_neg h13, if_pos h14, if_pos h14]
    · rw [if_neg h13, if_neg h14, if_neg h14, if_neg h13, if_neg h14]
theorem KQ.inp {w wx : World} {M : Msg} (h : KQ w M wx) (I : Nat → Int) : KQ w ⟨M.F, 1, I, M.nl, M.D, M.d⟩ ((wx.alloc (Obj.cells (inL3 I 1).toArray 34)).setCell ⟨w.heap.size, 13, none⟩ (.slice (some ⟨wx.heap.size, 0, none⟩) 1 1)) := by
  have hb := (Below.refl wx.heap.size wx).alloc (Nat.le_refl _) (Obj.cells (inL3 I 1).toArray 34)
  have hr := inpsV_new wx I 1 (by decide)
  have hs : wx.heap.size < (wx.alloc (Obj.cells (inL3 I 1).toArray 34)).heap.size := by simp
  obtain ⟨⟨iv, lv, dv, h1, h2⟩, h3, h4⟩ := h.below hb
  have hT : w.heap.size < wx.heap.size := by obtain ⟨_, _, _, h5, _⟩ := h.ex; exact h5.lt
  have hOn := (Only.refl w.heap.size (wx.alloc (Obj.cells (inL3 I 1).toArray 34))).setCell (p := ⟨w.heap.size, 13, none⟩) rfl (.slice (some ⟨wx.heap.size, 0, none⟩) 1 1)
  refine ⟨⟨.slice (some ⟨wx.heap.size, 0, none⟩) 1 1, lv, dv, h1.set 13 (fun j hj => ?_), fun w' a b => ?_⟩, there_setW h3, h4.setCell (p := ⟨w.heap.size, 13, none⟩) (Nat.le_refl _) _⟩
  · unfold msgF
    by_cases h13 : j = 13
    · rw [if_pos h13, if_pos h13]
    · rw [if_neg h13, if_neg h13, if_neg h13]
  · have hR := h2 w' (fun q hq hne => (a q (by rw [hOn.size]; exact hq) hne).trans (hOn.block q hne)) (Nat.le_trans (Nat.le_of_eq hOn.size.symm) b)
    have e := (a wx.heap.size (by rw [hOn.size]; exact hs) (by omega)).trans (hOn.block wx.heap.size (by omega))
    exact ⟨inpsV_put hr e (Nat.le_trans (Nat.le_of_eq hOn.size.symm) b), hR.l, hR.d⟩
theorem KQ.dat {w wx : World} {M : Msg} (h : KQ w M wx) (bs : List Int) (n : Nat) (hn : bs.length = n) (hm : n ≤ maxLen) : KQ w ⟨M.F, M.ni, M.I, M.nl, M.D, bs⟩ ((wx.alloc (Obj.cells (bv bs).toArray 5)).setCell ⟨w.heap.size, 15, none⟩ (.slice (some ⟨wx.heap.size, 0, none⟩) n n)) := by
  have hb := (Below.refl wx.heap.size wx).alloc (Nat.le_refl _) (Obj.cells (bv bs).toArray 5)
  have hr := bytesV_new wx bs n hn hm
  have hs : wx.heap.size < (wx.alloc (Obj.cells (bv bs).toArray 5)).heap.size := by simp
  obtain ⟨⟨iv, lv, dv, h1, h2⟩, h3, h4⟩ := h.below hb
  have hT : w.heap.size < wx.heap.size := by obtain ⟨_, _, _, h5, _⟩ := h.ex; exact h5.lt
  have hOn := (Only.refl w.heap.size (wx.alloc (Obj.cells (bv bs).toArray 5))).setCell (p := ⟨w.heap.size, 15, none⟩) rfl (.slice (some ⟨wx.heap.size, 0, none⟩) n n)
  refine ⟨⟨iv, lv, .slice (some ⟨wx.heap.size, 0, none⟩) n n, h1.set 15 (fun j hj => ?_), fun w' a b => ?_⟩, there_setW h3, h4.setCell (p := ⟨w.heap.size, 15, none⟩) (Nat.le_refl _) _⟩
  · unfold msgF
    by_cases h13 : j = 13
    · rw [if_pos h13, if_neg (by omega), if_pos h13]
    · by_cases h14 : j = 14
      · rw [if_neg h13, if_pos h14, if_neg (by omega), if_neg h13, if_pos h14]
      · by_cases h15 : j = 15
        · rw [if_neg h13, if_neg h14, if_pos h15, if_pos h15]
        · rw [if_neg h13, if_neg h14, if_neg h15, if_neg h15, if_neg h13, if_neg h14, if_neg h15]
  · have hR := h2 w' (fun q hq hne => (a q (by rw [hOn.size]; exact hq) hne).trans (hOn.block q hne)) (Nat.le_trans (Nat.le_of_eq hOn.size.symm) b)
    have e := (a wx.heap.size (by rw [hOn.size]; exact hs) (by omega)).trans (hOn.block wx.heap.size (by omega))
    exact ⟨hR.i, hR.l, bytesV_put hr e (Nat.le_trans (Nat.le_of_eq hOn.size.symm) b)⟩
theorem KQ.log {w wx : World} {M : Msg} (h : KQ w M wx) : KQ w ⟨M.F, M.ni, M.I, 1, fun _ => nE, M.d⟩ ((wx.alloc (Obj.cells (entL 0 (.slice none 0 0) (fun _ => 0)).toArray 37)).setCell ⟨w.heap.size, 14, none⟩ (.slice (some ⟨wx.heap.size, 0, none⟩) 1 1)) := by
  have hb := (Below.refl wx.heap.size wx).alloc (Nat.le_refl _) (Obj.cells (entL 0 (.slice none 0 0) (fun _ => 0)).toArray 37)
  have he := entAt_new 0 (.slice none 0 0) (fun _ => 0) 37 wx
  have hnil : ∀ W, EvsV W (.slice none 0 0) 0 (fun _ _ => 0) := fun W => ⟨none, 0, rfl, Nat.le_refl _, Nat.zero_le _, fun h => absurd h (by omega)⟩
  have hs : wx.heap.size < (wx.alloc (Obj.cells (entL 0 (.slice none 0 0) (fun _ => 0)).toArray 37)).heap.size := by simp
  obtain ⟨⟨iv, lv, dv, h1, h2⟩, h3, h4⟩ := h.below hb
  have hT : w.heap.size < wx.heap.size := by obtain ⟨_, _, _, h5, _⟩ := h.ex; exact h5.lt
  generalize wx.alloc (Obj.cells (entL 0 (.slice none 0 0) (fun _ => 0)).toArray 37) = w1 at *
  have hOn := (Only.refl w.heap.size w1).setCell (p := ⟨w.heap.size, 14, none⟩) rfl (.slice (some ⟨wx.heap.size, 0, none⟩) 1 1)
  refine ⟨⟨iv, .slice (some ⟨wx.heap.size, 0, none⟩) 1 1, dv, h1.setLK _, fun w' a b => ?_⟩, there_setW h3, h4.setCell (p := ⟨w.heap.size, 14, none⟩) (Nat.le_refl _) _⟩
  have hR := h2 w' (fun q hq hne => (a q (by rw [hOn.size]; exact hq) hne).trans (hOn.block q hne)) (Nat.le_trans (Nat.le_of_eq hOn.size.symm) b)
  have e := (a wx.heap.size (by rw [hOn.size]; exact hs) (by omega)).trans (hOn.block wx.heap.size (by omega))
  exact ⟨hR.i, EntsV.one (he.block e) (hnil w'), hR.d⟩
theorem mk_k4 (w : World) : (Instr.makeSlice 26 (.int .i64 1) (.int .i64 1)).run Try.prog w = .ok (.slice (some ⟨w.heap.size, 0, none⟩) 1 1) (w.alloc (Obj.cells (inL3 (fun _ => 0) 1).toArray 34)) := by kernel_rfl
theorem mk_k5 (w : World) : (Instr.makeSlice 27 (.int .i64 1) (.int .i64 1)).run Try.prog w = .ok (.slice (some ⟨w.heap.size, 0, none⟩) 1 1) (w.alloc (Obj.cells (entL 0 (.slice none 0 0) (fun _ => 0)).toArray 37)) := by kernel_rfl
set_option maxRecDepth 100000 in
set_option maxHeartbeats 8000000 in
theorem law_WireKinds (a0 a1 : Int) (w0 : (Lit.int .i64 a0).wf = true) (w1 : (Lit.int .i64 a1).wf = true) (w : World) :
    Calls Try.prog 9 #[.int .i64 a0, .int .i64 a1] w fun e w' => e = .returned (.bool true) ∧ Below w.heap.size w w' := by
  have hu0 : 0 ≤ IntKind.u64.wrap a0 := by simp [IntKind.wrap, IntKind.bits, IntKind.signed]; omega
  have hu1 : 0 ≤ IntKind.u64.wrap a1 := by simp [IntKind.wrap, IntKind.bits, IntKind.signed]; omega
  obtain ⟨k0, hk0, hK⟩ := cut_lt _ 14 hu0 (by omega) (by omega)
  obtain ⟨p, hp, hP⟩ := cut_lt _ 11 hu1 (by omega) (by omega)
  rw [← Int.tmod_eq_emod_of_nonneg hu0] at hK
  rw [← Int.tmod_eq_emod_of_nonneg hu1] at hP
  have hK' : wrap64 ((IntKind.u64.wrap a0).tmod 14) = (k0 : Int) := hK
  have hP' : wrap64 ((IntKind.u64.wrap a1).tmod 11) = (p : Int) := hP
  clear hK hP hu0 hu1
  go_enter Try.func9, Try.ntmps9
  go_upto_region 2 with (fail)
  rw [hK']
  clear hK'
  have hk1 : (1 : Int) + (k0 : Int) = ((1 + k0 : Nat) : Int) := by omega
  rw [hk1]
  clear hk1
  have hk14 : 1 ≤ 1 + k0 ∧ 1 + k0 ≤ 14 := by omega
  generalize 1 + k0 = k at *
  have HG : Hid (LG w w.heap.size (w.heap.size + 1) (k0F k) (.slice none 0 0) 0 (fun _ => nE) (w.alloc (Obj.cells #[.int .i64 k, .int .i64 0, .int .u16 0, .int .u16 0, .int .u32 0, .int .i64 0, .int .i64 0, .int .i64 0, .int .i64 0, .int .i64 0, .int .i64 0, .int .u32 0, .int .u64 0, .slice none 0 0, .slice none 0 0, .slice none 0 0] 30))) := Lib.hid (lg_new (w0 := w) (w := w) (F := k0F k) (Below.refl w.heap.size w) (Nat.le_refl _) (fun _ => nE))
  go_upto_block 0 with (fail)
  generalize w.alloc (Obj.cells #[.int .i64 k, .int .i64 0, .int .u16 0, .int .u16 0, .int .u32 0, .int .i64 0, .int .i64 0, .int .i64 0, .int .i64 0, .int .i64 0, .int .i64 0, .int .u32 0, .int .u64 0, .slice none 0 0, .slice none 0 0, .slice none 0 0] 30) = wa at *
  have c6 : wa.cell? ⟨w.heap.size, 6, none⟩ = some (.int .i64 0) := HG.out.msg.c6
  have f6 : wa.frozen? ⟨w.heap.size, 6, none⟩ = false := by have := (HG.out.th 6 (by omega)).2; rwa [Nat.zero_add] at this
  have c10 : wa.cell? ⟨w.heap.size, 10, none⟩ = some (.int .i64 0) := HG.out.msg.c10
  have f10 : wa.frozen? ⟨w.heap.size, 10, none⟩ = false := by have := (HG.out.th 10 (by omega)).2; rwa [Nat.zero_add] at this
  have c13 := HG.out.msg.c13
  have f13 : wa.frozen? ⟨w.heap.size, 13, none⟩ = false := by have := (HG.out.th 13 (by omega)).2; rwa [Nat.zero_add] at this
  have c14 := HG.out.msg.c14
  have f14 : wa.frozen? ⟨w.heap.size, 14, none⟩ = false := by have := (HG.out.th 14 (by omega)).2; rwa [Nat.zero_add] at this
  have c15 := HG.out.msg.c15
  have f15 : wa.frozen? ⟨w.heap.size, 15, none⟩ = false := by have := (HG.out.th 15 (by omega)).2; rwa [Nat.zero_add] at this
  have hT1 : w.heap.size < wa.heap.size := HG.out.msg.lt
  go_cut [6] (fun c wx => c = .pointer (some ⟨w.heap.size, 0, none⟩) ∧ K1 w k wx)
  case first =>
    rcases (by omega : k = 2 ∨ k = 4 ∨ k = 5 ∨ k = 7 ∨ (k ≠ 2 ∧ k ≠ 4 ∧ k ≠ 5 ∧ k ≠ 7)) with hk | hk | hk | hk | hk
    · subst hk
      have HU := Lib.hid (HG.out.msg.up 6 (by omega) 1)
      have HTh := Lib.hid (there_setW (k := 6) (v := .int .i64 1) HG.out.th)
      have HBu := Lib.hid (HG.out.bel.setCell (p := ⟨w.heap.size, 6, none⟩) (Nat.le_refl _) (.int .i64 1))
      go_wp2_with fail
      go_meet
      refine ⟨rfl, K1.mk ⟨⟨_, _, _, HU.out.congr (fun j hj => ?_), fun w' _ _ => rows_nil w' _⟩, HTh.out, HBu.out⟩ (fun h => absurd h (by decide))⟩
      show uF (k0F 2) 6 1 j = kF 2 j
      unfold uF k0F kF
      by_cases h0 : j = 0
      · subst h0; rfl
      · by_cases h6 : j = 6
        · subst h6; rfl
        · rw [if_neg h6, if_neg h0, if_neg h0, if_neg (by omega), if_neg (by omega)]
    · subst hk
      have hmk := mk_k4
      have hb4 := (Below.refl wa.heap.size wa).alloc (Nat.le_refl _) (Obj.cells (inL3 (fun _ => 0) 1).toArray 34)
      have hr4 := inpsV_new wa (fun _ => 0) 1 (by decide)
      have hs4 : wa.heap.size < (wa.alloc (Obj.cells (inL3 (fun _ => 0) 1).toArray 34)).heap.size := by simp
      have hm4 := HG.out.msg.block (hb4.block _ hT1)
      have hth4 := there_block HG.out.th (hb4.block _ hT1)
      have hbel4 := HG.out.bel.trans (hb4.mono HG.out.bel.size)
      have hq4 := kq4 (w1 := wa.alloc (Obj.cells (inL3 (fun _ => 0) 1).toArray 34)) hr4 hs4 hm4 hth4 hbel4 hT1
      rw [World.setCell_alloc_past _ _ _ _ hT1, World.setCell_alloc_past _ _ _ _ (by simpa using hT1)] at hq4
      have HQ4 := Lib.hid hq4
      clear hq4 hb4 hr4 hs4 hm4 hth4 hbel4
      go_wp2_with fail
      go_region
      all_goals (go_wp2_with fail)
      all_goals (go_meet; exact ⟨rfl, ⟨HQ4.out.drew, fun h => absurd h (by decide)⟩⟩)
    · subst hk
      have hmk := mk_k5
      have hb5 := (Below.refl wa.heap.size wa).alloc (Nat.le_refl _) (Obj.cells (entL 0 (.slice none 0 0) (fun _ => 0)).toArray 37)
      have he5 := entAt_new 0 (.slice none 0 0) (fun _ => 0) 37 wa
      have ht5 : (wa.alloc (Obj.cells (entL 0 (.slice none 0 0) (fun _ => 0)).toArray 37)).there wa.heap.size 0 26 := there_alloc_lit _ _ _ _ (by rw [List.size_toArray, entL_len]; exact Nat.le_refl _)
      have hs5 : wa.heap.size < (wa.alloc (Obj.cells (entL 0 (.slice none 0 0) (fun _ => 0)).toArray 37)).heap.size := by simp
      have hm5 := HG.out.msg.block (hb5.block _ hT1)
      have hth5 := there_block HG.out.th (hb5.block _ hT1)
      have hbel5 := HG.out.bel.trans (hb5.mono HG.out.bel.size)
      have hq5 := K1.mk (k := 5) (kq5 he5 ht5 hs5 hm5 hth5 hbel5 hT1) (kl5 he5 ht5 hs5 hm5 hT1)
      rw [World.setCell_alloc_past _ _ _ _ hT1] at hq5
      have HQ5 := Lib.hid hq5
      clear hq5
      clear hb5 he5 ht5 hs5 hm5 hth5 hbel5
      go_wp2_with fail
      go_meet
      exact ⟨rfl, HQ5.out⟩
    · subst hk
      have hb7 := (Below.refl wa.heap.size wa).alloc (Nat.le_refl _) (Obj.cells #[.int .u8 1] 5)
      have hr7 := bytesV_new wa [1] 1 rfl (by decide)
      have hs7 : wa.heap.size < (wa.alloc (Obj.cells #[.int .u8 1] 5)).heap.size := by simp
      have hm7 := HG.out.msg.block (hb7.block _ hT1)
      have hth7 := there_block HG.out.th (hb7.block _ hT1)
      have hbel7 := HG.out.bel.trans (hb7.mono HG.out.bel.size)
      have hq7 := kq7 (w1 := wa.alloc (Obj.cells #[.int .u8 1] 5)) hr7 hs7 hm7 hth7 hbel7 hT1
      rw [World.setCell_alloc_past _ _ _ _ hT1, World.setCell_alloc_past _ _ _ _ (by simpa using hT1)] at hq7
      have HQ7 := Lib.hid hq7
      clear hq7
      clear hb7 hr7 hs7 hm7 hth7 hbel7
      go_wp2_with fail
      go_meet
      exact ⟨rfl, ⟨HQ7.out, fun h => absurd h (by decide)⟩⟩
    · obtain ⟨h2, h4, h5, h7⟩ := hk
      have e2 : ((k : Int) == 2) = false := by rw [beq_eq_false_iff_ne]; omega
      have e4 : ((k : Int) == 4) = false := by rw [beq_eq_false_iff_ne]; omega
      have e5 : ((k : Int) == 5) = false := by rw [beq_eq_false_iff_ne]; omega
      have e7 : ((k : Int) == 7) = false := by rw [beq_eq_false_iff_ne]; omega
      have HQ := Lib.hid (kq0 (n := 0) (lv := .slice none 0 0) HG.out h2 h4 h5 h7)
      go_wp2_with fail
      go_meet
      exact ⟨rfl, ⟨HQ.out, fun h => absurd h h5⟩⟩
  case rest =>
    obtain ⟨rfl, hq⟩ := hcut
    clear HG c6 f6 c10 f10 c13 f13 c14 f14 c15 f15 hT1
    obtain ⟨iv, lv, dv, hA, hrob⟩ := hq.q.ex
    have HA := Lib.hid hA
    have HR := Lib.hid (hrob wc (fun _ _ _ => rfl) (Nat.le_refl _))
    have HQ := Lib.hid hq
    clear hA hrob hq
    go_wp2_with (refine wpList_load_g (op := ⟨some 37, _, _, _, _, _⟩) (by rfl) 30 _ rfl w.heap.size 0 rfl _ _ HA.out.range Try.underlying30 rfl (size_msg _ _ _ _) ?_)
    refine (mayM_any (kM k) iv lv dv wc HR.out).mono ?_
    rintro e wd ⟨rfl, hb⟩
    rw [kM_may k hk14.1 hk14.2]
    replace HQ := Lib.hid (HQ.out.below hb)
    clear hb HA HR
    go_upto_region 14 with (fail)
    go_cut [7] (fun c wx => c = .string (kStr k) ∧ K1 w k wx)
    case first =>
      rcases (by omega : k = 1 ∨ k = 2 ∨ k = 3 ∨ k = 4 ∨ k = 5 ∨ k = 6 ∨ k = 7 ∨ k = 8 ∨ k = 9 ∨ k = 10 ∨ k = 11 ∨ k = 12 ∨ k = 13 ∨ k = 14) with rfl | rfl | rfl | rfl | rfl | rfl | rfl | rfl | rfl | rfl | rfl | rfl | rfl | rfl
      all_goals (go_wp2_with fail; go_meet; exact ⟨rfl, HQ.out.below ((Below.refl wd.heap.size wd).alloc (Nat.le_refl _) _)⟩)
    case rest =>
      obtain ⟨rfl, hq⟩ := hcut
      clear HQ
      have HQ := Lib.hid hq
      clear hq
      go_upto_region 15 with (fail)
      go_cut [8] (fun c wx => c = .int .u8 (pS p) ∧ wx = wc)
      case first =>
        rcases (by omega : p = 0 ∨ p = 1 ∨ p = 2 ∨ p = 3 ∨ p = 4 ∨ p = 5 ∨ p = 6 ∨ p = 7 ∨ p = 8 ∨ p = 9 ∨ p = 10) with rfl | rfl | rfl | rfl | rfl | rfl | rfl | rfl | rfl | rfl | rfl
        all_goals (go_wp2_with fail; go_meet; exact ⟨rfl, rfl⟩)
      case rest =>
        obtain ⟨rfl, rfl⟩ := hcut
        clear hP'
        have hlen : (kStr k).size = (kS k).length := by
          unfold kStr
          show (((kS k).map UInt8.ofNat).toArray).size = _
          rw [List.size_toArray, List.length_map]
        go_wp2_with fail
        go_loopw [9, 10] (fun h c wr => ∃ i : Nat, i ≤ (kS k).length ∧ c = .int .i64 i ∧ h = .bool (kHas k p i) ∧ K1 w k wr) (fun _ c _ => (kS k).length - (intOf c).toNat)
        case atStart => exact ⟨0, by omega, rfl, rfl, HQ.out⟩
        case round =>
          obtain ⟨i, hi, rfl, rfl, hq⟩ := hrel
          clear HQ
          have HQ := Lib.hid hq
          clear hq
          by_cases hlt : i < (kS k).length
          · have hki : (i : Int) < ((kS k).length : Int) := by omega
            have hl6 := (kS_bd k hk14.2).1
            have HGet := Lib.hid (kStr_get k i hk14.2 hlt)
            have HNx : Hid (kHas k p (i + 1) = (kHas k p i || ((kS k).getD i 0 == pS p))) := Lib.hid rfl
            rcases hh : kHas k p i with _ | _
            · have HH := Lib.hid hh
              clear hh
              go_wp2_with fail
              refine ⟨⟨i + 1, by omega, by go_num, ?_, HQ.out⟩, by simp [intOf]; omega⟩
              rw [HGet.out, HNx.out, HH.out, Bool.false_or]
              congr 1
              rw [Bool.eq_iff_iff, beq_iff_eq, beq_iff_eq]
              omega
            · have HH := Lib.hid hh
              clear hh
              go_wp2_with fail
              refine ⟨⟨i + 1, by omega, by go_num, ?_, HQ.out⟩, by simp [intOf]; omega⟩
              rw [HNx.out, HH.out, Bool.true_or]
          · have hie : i = (kS k).length := by omega
            rw [hie]
            clear hlt hi hie
            go_upto_block 3 with (fail)
            go_cut [6] (fun c wx => c = .pointer (some ⟨w.heap.size, 0, none⟩) ∧ KQ w (kpM k p) wx)
            case first =>
              obtain ⟨iv, lv, dv, hA, hrob⟩ := HQ.out.q.ex
              rcases (by omega : p = 0 ∨ p = 1 ∨ p = 2 ∨ p = 3 ∨ p = 4 ∨ p = 5 ∨ p = 6 ∨ p = 7 ∨ p = 8 ∨ p = 9 ∨ p = 10) with rfl | rfl | rfl | rfl | rfl | rfl | rfl | rfl | rfl | rfl | rfl
              · have cc := hA.c5
                have ff : wr.frozen? ⟨w.heap.size, 5, none⟩ = false := by have := (HQ.out.q.th 5 (by omega)).2; rwa [Nat.zero_add] at this
                have HQn := Lib.hid (HQ.out.q.num 5 (by omega) 3)
                clear hA hrob
                go_wp2_with fail
                go_meet
                exact ⟨rfl, HQn.out⟩
              · have cc := hA.c6
                have ff : wr.frozen? ⟨w.heap.size, 6, none⟩ = false := by have := (HQ.out.q.th 6 (by omega)).2; rwa [Nat.zero_add] at this
                have HQn := Lib.hid (HQ.out.q.num 6 (by omega) 2)
                clear hA hrob
                go_wp2_with fail
                go_meet
                exact ⟨rfl, HQn.out⟩
              · have c7 := hA.c7
                have f7 : wr.frozen? ⟨w.heap.size, 7, none⟩ = false := by have := (HQ.out.q.th 7 (by omega)).2; rwa [Nat.zero_add] at this
                have HK := Lib.hid HQ.out.start
                clear hA hrob
                generalize wr = wi at *
                go_wp2_with fail
                clear c7 f7 HQ
                go_loopw [11] (fun i wr => ∃ j : Nat, i = .int .i64 j ∧ j ≤ (kM k).nl ∧ K2 w k j wr) (fun i _ => (kM k).nl - (intOf i).toNat)
                case atStart => exact ⟨0, rfl, Nat.zero_le _, HK.out⟩
                case round =>
                  obtain ⟨j, rfl, hj, hk2⟩ := hrel
                  clear HK
                  by_cases hk5 : k = 5
                  · subst hk5
                    have hj1 : j ≤ 1 := hj
                    rcases (by omega : j = 0 ∨ j = 1) with rfl | rfl
                    · obtain ⟨lb, h1, h2, h3, h4, h5⟩ := hk2.l rfl
                      have HN := Lib.hid (hk2.turn h1 h2 h3 h4 h5)
                      have ce := h4.z0
                      have fe : wr.frozen? ⟨lb, 0, none⟩ = false := by have := (h5 0 (by omega)).2; rwa [Nat.zero_add] at this
                      clear hk2 h4 h5 hj
                      go_wp2_with fail
                      exact ⟨⟨1, rfl, Nat.le_refl _, HN.out⟩, by show 1 - 1 < 1 - 0; omega⟩
                    · obtain ⟨lb, h1, h2, h3, h4, h5⟩ := hk2.l rfl
                      have HN := Lib.hid hk2.done
                      clear hk2 h4 h5 hj
                      go_wp2_with fail
                      go_meet
                      exact ⟨rfl, HN.out⟩
                  · have hnl : (kM k).nl = 0 := by show (if k = 5 then 1 else 0) = 0; rw [if_neg hk5]
                    obtain rfl : j = 0 := by omega
                    obtain ⟨iv, lv, dv, g1, g2⟩ := hk2.q.ex
                    have hR := (g2 wr (fun _ _ _ => rfl) (Nat.le_refl _)).l
                    have hnl' : (kfM k 0).nl = 0 := hnl
                    rw [hnl'] at hR
                    obtain ⟨a, cap, rfl, -⟩ := hR
                    have c14 := g1.c14
                    have HN := Lib.hid (hk2.other hk5)
                    clear hk2 g1 g2 hj hnl'
                    go_wp2_with fail
                    go_meet
                    exact ⟨rfl, HN.out⟩
              · have cc := hA.c8
                have ff : wr.frozen? ⟨w.heap.size, 8, none⟩ = false := by have := (HQ.out.q.th 8 (by omega)).2; rwa [Nat.zero_add] at this
                have HQn := Lib.hid (HQ.out.q.num 8 (by omega) 5)
                clear hA hrob
                go_wp2_with fail
                go_meet
                exact ⟨rfl, HQn.out⟩
              · have c9 := hA.c9
                have f9 : wr.frozen? ⟨w.heap.size, 9, none⟩ = false := by have := (HQ.out.q.th 9 (by omega)).2; rwa [Nat.zero_add] at this
                have f10 : wr.frozen? ⟨w.heap.size, 10, none⟩ = false := by have := (HQ.out.q.th 10 (by omega)).2; rwa [Nat.zero_add] at this
                by_cases hk7 : k = 7
                · subst hk7
                  have c10 : wr.cell? ⟨w.heap.size, 10, none⟩ = some (.int .i64 1) := hA.c10
                  have HQn := Lib.hid ((HQ.out.q.num 9 (by omega) 6).num 10 (by omega) 7)
                  clear hA hrob
                  go_wp2_with fail
                  go_meet
                  exact ⟨rfl, HQn.out⟩
                · have e10 : (kM k).F 10 = 0 := by
                    show kF k 10 = 0
                    unfold kF
                    rw [if_neg (by omega), if_neg (by omega), if_neg (by omega)]
                  have c10 : wr.cell? ⟨w.heap.size, 10, none⟩ = some (.int .i64 0) := by rw [← e10]; exact hA.c10
                  have hq4 := HQ.out.q.num 9 (by omega) 6
                  have ek : kpM k 4 = ⟨uF (kM k).F 9 6, (kM k).ni, (kM k).I, (kM k).nl, (kM k).D, (kM k).d⟩ := by
                    show (⟨if k = 7 then _ else uF (kF k) 9 6, _, _, _, _, _⟩ : Msg) = _
                    rw [if_neg hk7]
                    rfl
                  rw [← ek] at hq4
                  have HQn := Lib.hid hq4
                  clear hA hrob hq4 e10 ek
                  go_wp2_with fail
                  go_meet
                  exact ⟨rfl, HQn.out⟩
              · have cc := hA.c10
                have ff : wr.frozen? ⟨w.heap.size, 10, none⟩ = false := by have := (HQ.out.q.th 10 (by omega)).2; rwa [Nat.zero_add] at this
                have HQn := Lib.hid (HQ.out.q.num 10 (by omega) 9)
                clear hA hrob
                go_wp2_with fail
                go_meet
                exact ⟨rfl, HQn.out⟩
              · have cc := hA.c11
                have ff : wr.frozen? ⟨w.heap.size, 11, none⟩ = false := by have := (HQ.out.q.th 11 (by omega)).2; rwa [Nat.zero_add] at this
                have HQn := Lib.hid (HQ.out.q.num 11 (by omega) 10)
                clear hA hrob
                go_wp2_with fail
                go_meet
                exact ⟨rfl, HQn.out⟩
              · have cc := hA.c12
                have ff : wr.frozen? ⟨w.heap.size, 12, none⟩ = false := by have := (HQ.out.q.th 12 (by omega)).2; rwa [Nat.zero_add] at this
                have HQn := Lib.hid (HQ.out.q.num 12 (by omega) 11)
                clear hA hrob
                go_wp2_with fail
                go_meet
                exact ⟨rfl, HQn.out⟩
              · have c13 := hA.c13
                have f13 : wr.frozen? ⟨w.heap.size, 13, none⟩ = false := by have := (HQ.out.q.th 13 (by omega)).2; rwa [Nat.zero_add] at this
                have hT2 : w.heap.size < wr.heap.size := hA.lt
                have hq8 := HQ.out.q.inp (fun j => if j = 0 then 1 else 0)
                rw [World.setCell_alloc_past _ _ _ _ hT2] at hq8
                have HQn := Lib.hid hq8
                clear hA hrob hq8
                go_wp2_with fail
                go_meet
                exact ⟨rfl, HQn.out⟩
              · have e7 : (kM k).F 7 = 0 := by
                  show kF k 7 = 0
                  unfold kF
                  rw [if_neg (by omega), if_neg (by omega), if_neg (by omega)]
                have c7 : wr.cell? ⟨w.heap.size, 7, none⟩ = some (.int .i64 0) := by rw [← e7]; exact hA.c7
                have c14 := hA.c14
                have f14 : wr.frozen? ⟨w.heap.size, 14, none⟩ = false := by have := (HQ.out.q.th 14 (by omega)).2; rwa [Nat.zero_add] at this
                have hT2 : w.heap.size < wr.heap.size := hA.lt
                have hq8 := HQ.out.q.log
                rw [World.setCell_alloc_past _ _ _ _ hT2] at hq8
                have HQn := Lib.hid hq8
                clear hA hrob hq8 e7
                go_wp2_with (first | (refine wpList_build_fr (0 : Int) (by rfl) _ rfl rfl ?_) | (refine wpList_bs_ent (0 : Int) (.slice none 0 0) (fun _ => 0) (by rfl) _ rfl rfl ?_))
                go_meet
                exact ⟨rfl, HQn.out⟩
              · have c15 := hA.c15
                have f15 : wr.frozen? ⟨w.heap.size, 15, none⟩ = false := by have := (HQ.out.q.th 15 (by omega)).2; rwa [Nat.zero_add] at this
                have hT2 : w.heap.size < wr.heap.size := hA.lt
                have hq8 := HQ.out.q.dat [4, 5] 2 rfl (by decide)
                rw [World.setCell_alloc_past _ _ _ _ hT2] at hq8
                have HQn := Lib.hid hq8
                clear hA hrob hq8
                go_wp2_with fail
                go_meet
                exact ⟨rfl, HQn.out⟩
            case rest =>
              obtain ⟨rfl, hq⟩ := hcut
              clear HQ
              obtain ⟨iv, lv, dv, hA, hrob⟩ := hq.ex
              have HA := Lib.hid hA
              have HR := Lib.hid (hrob wc (fun _ _ _ => rfl) (Nat.le_refl _))
              have HB := Lib.hid hq.bel
              clear hA hrob hq
              go_wp2_with fail
              refine (told_law _).mono ?_
              rintro e wt ⟨rfl, hb⟩
              replace HA := Lib.hid (HA.out.block (hb.block _ HA.out.lt))
              replace HR := Lib.hid (HR.out.below hb (Nat.le_refl _))
              replace HB := Lib.hid (HB.out.trans (hb.mono HB.out.size))
              clear hb
              go_wp2_with (refine wpList_load_g (op := ⟨some 120, _, _, _, _, _⟩) (by rfl) 30 _ rfl w.heap.size 0 rfl _ _ HA.out.range Try.underlying30 rfl (size_msg _ _ _ _) ?_)
              refine (mayM_any (kpM k p) iv lv dv wt HR.out).mono ?_
              rintro e wu ⟨rfl, hb⟩
              replace HB := Lib.hid (HB.out.trans (hb.mono HB.out.size))
              rw [kpM_may k p hk14.1 hk14.2 hp]
              generalize kHas k p (kS k).length = hs at *
              clear hb
              go_wp2_with fail
              go_ret
              exact ⟨by simp, HB.out⟩
end Go.Proofs.Ytembppihfcclcaa
