/-
  Entry: rows of bytes; slices.Equal of bytes; the reader's byte.
-/
import Derived.Test.YtembppihfcclcaaG
import Derived.WalkLawsBesides
import Derived.Defers
import Derived.Recover
namespace Go.Proofs.Ytembppihfcclcaa
set_option linter.unusedVariables false
open Go.ChangeShapes Go.WideShapes Go.ChangeAt Go.RowKit

/-- A row of bytes in memory. -/
def BytesAt (w : World) (b o : Nat) (bs : List Int) : Prop := ∀ i, i < bs.length → w.cell? ⟨b, o + i, none⟩ = some (.int .u8 (bs.getD i 0))
def BytesV (w : World) (v : Value) (bs : List Int) : Prop :=
  ∃ a cap, v = .slice a bs.length cap ∧ bs.length ≤ cap ∧ cap ≤ maxLen ∧ (0 < bs.length → ∃ b o, a = some ⟨b, o, none⟩ ∧ b < w.heap.size ∧ BytesAt w b o bs)
theorem BytesAt.block {w w' : World} {b o : Nat} {bs : List Int} (h : BytesAt w b o bs) (k : w'.heap[b]? = w.heap[b]?) : BytesAt w' b o bs := fun i hi => (World.cell?_of_block k).trans (h i hi)
theorem BytesV.below {w w' : World} {v : Value} {bs : List Int} {B : Nat} (h : BytesV w v bs) (hb : Below B w w') (hs : w.heap.size ≤ B) : BytesV w' v bs := by
  obtain ⟨a, cap, rfl, h1, h2, h3⟩ := h
  refine ⟨a, cap, rfl, h1, h2, fun hn => ?_⟩
  obtain ⟨b, o, rfl, hlt, he⟩ := h3 hn
  have := hb.size
  exact ⟨b, o, rfl, by omega, he.block (hb.block b (by omega))⟩
theorem OwnB.bytes {w : World} {B : Nat} {v : Value} {bs : List Int} (h : OwnB w B v bs) (hn : 0 < bs.length) : BytesV w v bs := by
  obtain ⟨g, cap, rfl, h1, h2, h3, h4⟩ := h.form hn
  exact ⟨_, _, rfl, h3, h4, fun _ => ⟨g, 0, rfl, h2, fun i hi => by rw [Nat.zero_add]; exact h.cell i hi⟩⟩
theorem getD_eq_of {a b : List Int} (hl : a.length = b.length) (h : ∀ i, i < a.length → a.getD i 0 = b.getD i 0) : a = b := by
  apply List.ext_getElem hl
  intro i h1 h2
  have := h i h1
  rwa [List.getD_eq_getElem?_getD, List.getD_eq_getElem?_getD, List.getElem?_eq_getElem h1, List.getElem?_eq_getElem h2] at this
set_option maxHeartbeats 1000000 in
theorem eqByte_any (v v' : Value) (bs bs' : List Int) (w : World) (h : BytesV w v bs) (h' : BytesV w v' bs') :
    Calls Try.prog 70 #[v, v'] w fun e w' => e = .returned (.bool (decide (bs = bs'))) ∧ Below w.heap.size w w' := by
  obtain ⟨a, cap, rfl, hnc, hcm, hev⟩ := h
  obtain ⟨a', cap', rfl, hnc', hcm', hev'⟩ := h'
  unfold maxLen at hcm hcm'
  by_cases hnn : bs.length = bs'.length
  · have HAll := Lib.hid (fun h => getD_eq_of hnn h)
    have HNo : Hid (∀ i, bs.getD i 0 ≠ bs'.getD i 0 → decide (bs = bs') = false) := Lib.hid (fun i hi => decide_eq_false (fun e => hi (by rw [e])))
    obtain ⟨n, hn⟩ : ∃ n, n = bs.length := ⟨_, rfl⟩
    rw [← hnn] at hev' hnc' ⊢
    rw [← hn] at HAll hev hev' hnc hnc' ⊢
    have HN := Lib.hid hn
    have HN' := Lib.hid (hn.trans hnn)
    have bnn : ((n : Int) == (n : Int)) = true := by simp
    have HEV := Lib.hid hev
    have HEV' := Lib.hid hev'
    clear hev hev' hnn hn
    go_enter Try.func70, Try.ntmps70
    go_wp2_with fail
    go_loopw [13] (fun i wr => ∃ k : Nat, k ≤ n ∧ i = .int .i64 k ∧ (∀ j, j < k → bs.getD j 0 = bs'.getD j 0) ∧ Below w.heap.size w wr) (fun i _ => n - (intOf i).toNat)
    case atStart => exact ⟨0, by omega, rfl, fun j hj => by omega, Below.refl _ _⟩
    case round =>
      obtain ⟨k, hk, rfl, hok, hB⟩ := hrel
      have HB := Lib.hid hB
      have HOK := Lib.hid hok
      clear hok
      by_cases hlt : k < n
      · obtain ⟨b, o, rfl, hbl, hin⟩ := HEV.out (by omega)
        obtain ⟨b', o', rfl, hbl', hin'⟩ := HEV'.out (by omega)
        have d0 := cell_regrown ((hin.block (hB.block b hbl)) k (by rw [← HN.out]; exact hlt))
        have d0' := cell_regrown ((hin'.block (hB.block b' hbl')) k (by rw [← HN'.out]; exact hlt))
        have hki : (k : Int) < (n : Int) := by omega
        have HNo2 := Lib.hid (HNo.out k)
        have HOK2 : Hid (bs.getD k 0 = bs'.getD k 0 → ∀ j, j < k + 1 → bs.getD j 0 = bs'.getD j 0) := Lib.hid (fun h j hj => by
          by_cases e : j = k
          · subst e; exact h
          · exact HOK.out j (by omega))
        clear hB hin hin'
        generalize bs.getD k 0 = x at *
        generalize bs'.getD k 0 = y at *
        rcases hb : (x == y) with _ | _
        · have hne : x ≠ y := by simpa using hb
          have HRel := Lib.hid (HNo2.out hne)
          have hbn : (x != y) = true := by simpa using hne
          clear hne HNo2 HOK2
          go_wp2_with fail
          refine wp_region_quiet_below (by kernel_rfl) (by kernel_rfl) ?_
          repeat (go_big_quiet_step (fail))
          refine wpQuiet_nil ?_
          intro w10 hw'
          obtain ⟨⟨nq, osq⟩, hw3⟩ := hw'
          have HW := Lib.hid (HB.out.trans ((below_regrown _ nq osq).mono HB.out.size))
          rw [← hw3] at HW
          clear hw3 d0 d0' HB
          go_wp2_with fail
          go_ret
          exact ⟨by rw [HRel.out]; rfl, HW.out⟩
        · have heq := eq_of_beq hb
          subst heq
          have HRel := Lib.hid (HOK2.out rfl)
          have hbn : (x != x) = false := by simp
          clear HNo2 HOK2
          go_wp2_with fail
          refine wp_region_quiet_below (by kernel_rfl) (by kernel_rfl) ?_
          repeat (go_big_quiet_step (fail))
          refine wpQuiet_nil ?_
          intro w10 hw'
          obtain ⟨⟨nq, osq⟩, hw3⟩ := hw'
          have HW := Lib.hid (HB.out.trans ((below_regrown _ nq osq).mono HB.out.size))
          rw [← hw3] at HW
          clear hw3 d0 d0' HB
          go_wp2_with fail
          all_goals first | exact ⟨⟨k + 1, by omega, by go_num, HRel.out, HW.out⟩, by simp [intOf]; omega⟩ | exact ⟨k + 1, by omega, by go_num, HRel.out, HW.out⟩ | (simp [intOf]; omega) | go_roundw
      · obtain rfl : k = n := by omega
        go_wp2_with fail
        go_ret
        exact ⟨by rw [decide_eq_true (HAll.out HOK.out)]; rfl, hB⟩
  · have bnn : ((bs.length : Int) == (bs'.length : Int)) = false := by rw [beq_eq_false_iff_ne]; omega
    rw [decide_eq_false (fun e => hnn (by rw [e]))]
    clear hev hev'
    go_enter Try.func70, Try.ntmps70
    go_wp2_with fail
    go_ret
    exact ⟨rfl, Below.refl _ _⟩
/-- Only block b may have changed. -/
structure Only (b : Nat) (w w' : World) : Prop where
  os : w'.os = w.os
  tape : w'.tape = w.tape
  output : w'.output = w.output
  size : w'.heap.size = w.heap.size
  block : ∀ k, k ≠ b → w'.heap[k]? = w.heap[k]?
theorem Only.refl (b : Nat) (w : World) : Only b w w := ⟨rfl, rfl, rfl, rfl, fun _ _ => rfl⟩
theorem Only.trans {b : Nat} {x y z : World} (h : Only b x y) (k : Only b y z) : Only b x z :=
  ⟨k.os.trans h.os, k.tape.trans h.tape, k.output.trans h.output, k.size.trans h.size, fun i hi => (k.block i hi).trans (h.block i hi)⟩
theorem Only.drew {b : Nat} {a w : World} (h : Only b a w) : Only b a w.drew := ⟨h.os, h.tape, h.output, h.size, h.block⟩
theorem Only.setCell {b : Nat} {a w : World} (h : Only b a w) {p : Addr} (hp : p.block = b) (u : Value) : Only b a (w.setCell p u) :=
  h.trans ⟨rfl, rfl, rfl, by simp [World.setCell], fun k hk => Below.heap_setCell _ _ _ _ (by omega)⟩
theorem Only.below {b B : Nat} {w w' : World} (h : Only b w w') (hb : B ≤ b) : Below B w w' :=
  ⟨h.os, h.tape, h.output, by rw [h.size]; exact Nat.le_refl _, fun k hk => h.block k (by omega)⟩
/-- A reader at block R has come to place i of the L bytes that lie from place o of block b on. -/
structure RdAt (w : World) (R b o L C i : Nat) : Prop where
  cell : ∃ a, w.cell? ⟨R, 0, none⟩ = some (.slice a (L - i) (C - i)) ∧ (i < L → a = some ⟨b, o + i, none⟩)
  fz : w.frozen? ⟨R, 0, none⟩ = false
  le : i ≤ L
  lc : L ≤ C
  cm : C ≤ maxLen
theorem RdAt.block {w w' : World} {R b o L C i : Nat} (h : RdAt w R b o L C i) (k : w'.heap[R]? = w.heap[R]?) : RdAt w' R b o L C i := by
  obtain ⟨⟨a, h1, h2⟩, h3, h4, h5, h6⟩ := h
  exact ⟨⟨a, (World.cell?_of_block k).trans h1, h2⟩, (World.frozen?_of_block k).trans h3, h4, h5, h6⟩
theorem RdAt.lt {w : World} {R b o L C i : Nat} (h : RdAt w R b o L C i) : R < w.heap.size := by
  obtain ⟨⟨a, h1, h2⟩, h3⟩ := h
  exact block_of_cell h1
def wrongP : List PanicEntry := [{ v := .iface 103 (.agg #[]), recovered := false }]
theorem byte_end (R b o L C : Nat) (w : World) (h : RdAt w R b o L C L) :
    Calls Try.prog 69 #[.pointer (some ⟨R, 0, none⟩)] w fun e w' => e = .panicked wrongP ∧ w' = w := by
  obtain ⟨⟨a, hc, -⟩, hf, -, hlc, hcm⟩ := h
  rw [Nat.sub_self] at hc
  go_enter Try.func69, Try.ntmps69
  go_wp2
  exact ⟨rfl, rfl, rfl⟩
def zz (bs : List Int) (i : Nat) : Int := bs.getD i 0
def ByteL (bs : List Int) : Prop := ∀ i, 0 ≤ zz bs i ∧ zz bs i < 256
theorem byte_any (R b o L C i : Nat) (bs : List Int) (w : World) (hl : bs.length = L) (hby : ByteL bs) (h : RdAt w R b o L C i) (hi : i < L) (hb : BytesAt w b o bs) (hRb : b ≠ R) :
    Calls Try.prog 69 #[.pointer (some ⟨R, 0, none⟩)] w fun e w' => e = .returned (.int .i64 (zz bs i)) ∧ RdAt w' R b o L C (i + 1) ∧ Only R w w' := by
  obtain ⟨⟨a, hc, ha⟩, hf, -, hlc, hcm⟩ := h
  obtain rfl := ha hi
  have d0 : w.cell? ⟨b, o + i, none⟩ = some (.int .u8 (zz bs i)) := hb i (by omega)
  have hx := hby i
  have hcm0 := hcm
  unfold maxLen at hcm
  obtain ⟨m, hm⟩ : ∃ m, L - i = m + 1 := ⟨L - i - 1, by omega⟩
  obtain ⟨c, hc'⟩ : ∃ c, C - i = c + 1 := ⟨C - i - 1, by omega⟩
  have hmc : m ≤ c := by omega
  rw [hm, hc'] at hc
  generalize zz bs i = x at *
  have hx64 : wrap64 x = x := by unfold wrap64; omega
  have hne : ∀ u, (w.setCell ⟨R, 0, none⟩ u).cell? ⟨R, 0, none⟩ = some u := fun u => World.cell?_setCell_same _ _ _ hc
  go_enter Try.func69, Try.ntmps69
  go_wp2
  · go_ret
    refine ⟨rfl, ⟨⟨some ⟨b, o + i, none⟩, (hne _).trans (by rw [show L - (i + 1) = m by omega, show C - (i + 1) = c by omega, h]), fun h' => by omega⟩, by rw [World.frozen?_setCell]; exact hf, by omega, hlc, hcm0⟩, (Only.refl R w).setCell rfl _⟩
  · go_ret
    refine ⟨rfl, ⟨⟨some ⟨b, o + i + 1, none⟩, (hne _).trans (by rw [show L - (i + 1) = m by omega, show C - (i + 1) = c by omega]), fun h' => rfl⟩, by rw [World.frozen?_setCell]; exact hf, by omega, hlc, hcm0⟩, (Only.refl R w).setCell rfl _⟩
end Go.Proofs.Ytembppihfcclcaa
