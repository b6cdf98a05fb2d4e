/-
  Roster: Take.
-/
import Derived.Test.YthjabcogbjdkiaaE
namespace Go.Proofs.Ythjabcogbjdkiaa
set_option linter.unusedVariables false
open Go.ChangeShapes Go.WideShapes Go.ChangeAt Go.RowKit

theorem wpList_load_g {P : Program} {ops : Array Oper} {rest : List Oper} {op : Oper} {a : Act} {w : World} {Q : Exit → Act → World → Prop} (hw : Region.wanted op (yielded ops a.tmps) = true) (ty : TypeId) (x : Operand) (ho : op.op = .load ty x)
    (b o : Nat) (hx : a.eval x = .pointer (some ⟨b, o, none⟩)) (cs : List Value) (d : TypeDesc) (hc : w.rangeAt b o cs)
    (hu : P.underlying ty = some d) (hd : d.isRow = true) (hi : (P.info? ty).map (·.size) = some cs.length)
    (h : wpList P ops Q rest (a.put op.dst (.agg cs.toArray)) w) : wpList P ops Q (op :: rest) a w :=
  wpList_step fun K hK => by rw [if_pos hw]; exact wp_load_mid ty x ho b o hx cs d hc hu hd hi (hK _ _ h)
def takeR (v : Int) (P G : Nat → Int) (slot peer : Int) : Bool := seatR v P G slot false && decide (0 ≤ peer) && decide (peer < 12) && (List.range 8).all (fun n => P n != peer) && decide (G slot.toNat < 60000)
theorem all_ne (P : Nat → Int) (peer : Int) : (List.range 8).all (fun n => P n != peer) = true ↔ ∀ n, n < 8 → P n ≠ peer := by
  simp only [List.all_eq_true, List.mem_range, bne_iff_ne]
theorem seat_slot {v : Int} {P G : Nat → Int} {slot : Int} {had : Bool} (h : seatR v P G slot had = true) : ∃ n : Nat, slot = n ∧ n < 8 ∧ mayR v P G = true ∧ 0 ≤ v ∧ v < 1073741824 ∧ decide (0 ≤ P n) = had := by
  unfold seatR at h
  simp only [Bool.and_eq_true, decide_eq_true_eq, beq_iff_eq] at h
  obtain ⟨⟨⟨⟨h1, h2⟩, h3⟩, h4⟩, h5⟩ := h
  have h1' := h1
  unfold mayR at h1
  simp only [Bool.and_eq_true, decide_eq_true_eq] at h1
  exact ⟨slot.toNat, by omega, by omega, h1', h1.1.1, h2, h5⟩
theorem run_store_ros {w : World} {b : Nat} (ht : w.there b 0 17) (v : Int) (P G : Nat → Int) :
    (storeCells ⟨b, 0, none⟩ (rosL v P G)).run Try.prog w = .ok () (w.setCells b 0 (rosL v P G)) := by
  have := run_storeCells_cells (P := Try.prog) b 0 (rosL v P G) 0 w (fun j hj => by rw [rosL_len] at hj; simpa using (ht j hj).1) (fun j hj => by rw [rosL_len] at hj; simpa using (ht j hj).2)
    (fun x hx => (Array.all_eq_true_iff_forall_mem.1 (rosL_one v P G)) x (by simpa using hx))
  simpa using this
theorem bad_at (P G : Nat → Int) (m n : Nat) (h : anyBad P G m = false) (hn : n < m) : badSeat (P n) (G n) (mask P n) = false := by
  cases hb : badSeat (P n) (G n) (mask P n) with
  | false => rfl
  | true =>
    have : anyBad P G (n + 1) = true := by unfold anyBad; rw [hb, Bool.or_true]
    rw [anyBad_mono P G (n + 1) m (by omega) this] at h
    cases h
theorem may_range {v : Int} {P G : Nat → Int} (h : mayR v P G = true) (n : Nat) (hn : n < 8) : -1 ≤ P n ∧ P n < 12 ∧ 0 ≤ G n ∧ G n ≤ 60000 := by
  unfold mayR at h
  simp only [Bool.and_eq_true, decide_eq_true_eq, Bool.not_eq_true'] at h
  exact not_wrong (bad_at P G 8 n h.2 hn)
set_option maxHeartbeats 2000000 in
theorem take_no (v slot peer : Int) (P G : Nat → Int) (hno : takeR v P G slot peer = false) (w : World) :
    Calls Try.prog 10 #[rosV v P G, .int .i64 slot, .int .i64 peer] w fun e w' => e = .returned (.tuple #[rosV v P G, .int .i64 1]) ∧ Below w.heap.size w w' := by
  unfold takeR at hno
  unfold rosV
  go_enter Try.func10, Try.ntmps10
  go_wp2_with (refine wpList_load_mid rfl 27 _ rfl w.heap.size 0 rfl (rosL v P G) _ (rosAt_box v P G w _).range Try.underlying27 rfl (size_27 v P G) ?_)
  have hz1 : (w.alloc (Obj.cells (rosL v P G).toArray 27)).heap.size = w.heap.size + 1 := by simp
  have hr := rosAt_new v P G 27 w
  have hb1 := (Below.refl w.heap.size w).alloc (Nat.le_refl _) (Obj.cells (rosL v P G).toArray 27)
  generalize w.alloc (Obj.cells (rosL v P G).toArray 27) = w1 at hr hz1 hb1 ⊢
  have hA := Below.heap_alloc w1 (Obj.cells #[.int .i64 0, .int .i64 0, .int .i64 0, .int .i64 0, .int .i64 0, .int .i64 0, .int .i64 0, .int .i64 0, .int .i64 0, .int .i64 0, .int .i64 0, .int .i64 0, .int .i64 0, .int .i64 0, .int .i64 0, .int .i64 0, .int .i64 0] 27) w.heap.size (by omega)
  have hr0 := hr.block hA
  have hr1 : RosAt (w1.alloc (Obj.cells #[.int .i64 0, .int .i64 0, .int .i64 0, .int .i64 0, .int .i64 0, .int .i64 0, .int .i64 0, .int .i64 0, .int .i64 0, .int .i64 0, .int .i64 0, .int .i64 0, .int .i64 0, .int .i64 0, .int .i64 0, .int .i64 0, .int .i64 0] 27)) w1.heap.size 0 (fun _ => 0) (fun _ => 0) := rosAt_new 0 (fun _ => 0) (fun _ => 0) 27 w1
  have hb2 := hb1.alloc (by omega) (Obj.cells #[.int .i64 0, .int .i64 0, .int .i64 0, .int .i64 0, .int .i64 0, .int .i64 0, .int .i64 0, .int .i64 0, .int .i64 0, .int .i64 0, .int .i64 0, .int .i64 0, .int .i64 0, .int .i64 0, .int .i64 0, .int .i64 0, .int .i64 0] 27)
  have hz2 : (w1.alloc (Obj.cells #[.int .i64 0, .int .i64 0, .int .i64 0, .int .i64 0, .int .i64 0, .int .i64 0, .int .i64 0, .int .i64 0, .int .i64 0, .int .i64 0, .int .i64 0, .int .i64 0, .int .i64 0, .int .i64 0, .int .i64 0, .int .i64 0, .int .i64 0] 27)).heap.size = w.heap.size + 2 := by simp; omega
  generalize w1.alloc (Obj.cells #[.int .i64 0, .int .i64 0, .int .i64 0, .int .i64 0, .int .i64 0, .int .i64 0, .int .i64 0, .int .i64 0, .int .i64 0, .int .i64 0, .int .i64 0, .int .i64 0, .int .i64 0, .int .i64 0, .int .i64 0, .int .i64 0, .int .i64 0] 27) = w2 at *
  rw [hz1] at hr1
  clear hr hb1 hA
  refine (seat_v v _ false P G _).mono ?_
  rintro e w3 ⟨rfl, hb3⟩
  have HB := Lib.hid (hb2.trans (hb3.mono (by omega)))
  have HR0 := Lib.hid (hr0.block (hb3.block _ hr0.lt))
  have HR1 := Lib.hid (hr1.block (hb3.block _ hr1.lt))
  have hz3 : w.heap.size + 2 ≤ w3.heap.size := by have := hb3.size; omega
  clear hr0 hr1 hb2 hb3 hz1 hz2
  generalize hb0 : w.heap.size = b at *
  have HB0 := Lib.hid hb0
  clear hb0
  cases hs : seatR v P G slot false with
  | false =>
    clear hs hno
    go_wp2_with (first | (refine wpList_load_g (by rfl) 27 _ rfl b 0 rfl _ _ HR0.out.range Try.underlying27 rfl (size_27 v P G) ?_) | (refine wpList_store_mid rfl 27 _ _ rfl (b + 1) 0 _ rfl rfl (HR1.out.there' v P G) (size_27' v P G) (rosL_one v P G) ?_))
    refine bodyPost_ret (results_cell rfl _ _ (b + 1) rfl v P G (rosAt_stored HR1.out.there v P G)) rfl ⟨rfl, ?_⟩
    rw [HB0.out]
    exact below_setCells _ (by omega) _ _ HB.out
  | true =>
    obtain ⟨n, rfl, hn, hm, hv0, hv1, hpn⟩ := seat_slot hs
    rw [hs, Bool.true_and] at hno
    clear hs hpn
    by_cases h1 : peer < 0
    · have d1 := decide_eq_true h1
      clear hno
      go_wp2_with (first | (refine wpList_load_g (by rfl) 27 _ rfl b 0 rfl _ _ HR0.out.range Try.underlying27 rfl (size_27 v P G) ?_) | (refine wpList_store_mid rfl 27 _ _ rfl (b + 1) 0 _ rfl rfl (HR1.out.there' v P G) (size_27' v P G) (rosL_one v P G) ?_))
      refine bodyPost_ret (results_cell rfl _ _ (b + 1) rfl v P G (rosAt_stored HR1.out.there v P G)) rfl ⟨rfl, ?_⟩
      rw [HB0.out]
      exact below_setCells _ (by omega) _ _ HB.out
    have d1 := decide_eq_false h1
    by_cases h2 : 12 ≤ peer
    · have d2 := decide_eq_true h2
      clear hno
      go_wp2_with (first | (refine wpList_load_g (by rfl) 27 _ rfl b 0 rfl _ _ HR0.out.range Try.underlying27 rfl (size_27 v P G) ?_) | (refine wpList_store_mid rfl 27 _ _ rfl (b + 1) 0 _ rfl rfl (HR1.out.there' v P G) (size_27' v P G) (rosL_one v P G) ?_))
      refine bodyPost_ret (results_cell rfl _ _ (b + 1) rfl v P G (rosAt_stored HR1.out.there v P G)) rfl ⟨rfl, ?_⟩
      rw [HB0.out]
      exact below_setCells _ (by omega) _ _ HB.out
    have d2 := decide_eq_false h2
    rw [decide_eq_true (show 0 ≤ peer by omega), decide_eq_true (show peer < 12 by omega), Bool.true_and, Bool.true_and, Int.toNat_natCast] at hno
    have HNO := Lib.hid hno
    have HMay := Lib.hid hm
    clear hno hm
    go_wp2_with (first | (refine wpList_load_g (by rfl) 27 _ rfl b 0 rfl _ _ HR0.out.range Try.underlying27 rfl (size_27 v P G) ?_) | (refine wpList_store_mid rfl 27 _ _ rfl (b + 1) 0 _ rfl rfl (HR1.out.there' v P G) (size_27' v P G) (rosL_one v P G) ?_))
    refine (of_v v peer P G _).mono ?_
    rintro e w4 ⟨⟨r, rfl, hr⟩, hb4⟩
    have HB4 := Lib.hid (HB.out.trans (hb4.mono (by omega)))
    have HR04 := Lib.hid (HR0.out.block (hb4.block _ HR0.out.lt))
    have HR14 := Lib.hid (HR1.out.block (hb4.block _ HR1.out.lt))
    clear HB HR0 HR1 hb4
    have HB := HB4
    have HR0 := HR04
    have HR1 := HR14
    clear HB4 HR04 HR14
    rcases hr with ⟨rfl, hr⟩ | ⟨q, hq, rfl, -, -, -, -⟩
    · have hall : (List.range 8).all (fun n => P n != peer) = true := by
        rw [all_ne]
        rcases hr with h | h | h
        · omega
        · rw [HMay.out] at h; cases h
        · exact h
      have hg : ¬ G n < 60000 := by
        intro h
        have := HNO.out
        rw [hall, decide_eq_true h] at this
        cases this
      have hg' : decide (60000 ≤ G n) = true := decide_eq_true (by omega)
      have cg := HR0.out.g n hn
      clear hr hall hg
      generalize G n = g at cg hg'
      go_wp2_with (first | (refine wpList_load_g (by rfl) 27 _ rfl b 0 rfl _ _ HR0.out.range Try.underlying27 rfl (size_27 v P G) ?_) | (refine wpList_store_mid rfl 27 _ _ rfl (b + 1) 0 _ rfl rfl (HR1.out.there' v P G) (size_27' v P G) (rosL_one v P G) ?_))
      refine bodyPost_ret (results_cell rfl _ _ (b + 1) rfl v P G (rosAt_stored HR1.out.there v P G)) rfl ⟨rfl, ?_⟩
      rw [HB0.out]
      exact below_setCells _ (by omega) _ _ HB.out
    · go_wp2_with (first | (refine wpList_load_g (by rfl) 27 _ rfl b 0 rfl _ _ HR0.out.range Try.underlying27 rfl (size_27 v P G) ?_) | (refine wpList_store_mid rfl 27 _ _ rfl (b + 1) 0 _ rfl rfl (HR1.out.there' v P G) (size_27' v P G) (rosL_one v P G) ?_))
      refine bodyPost_ret (results_cell rfl _ _ (b + 1) rfl v P G (rosAt_stored HR1.out.there v P G)) rfl ⟨rfl, ?_⟩
      rw [HB0.out]
      exact below_setCells _ (by omega) _ _ HB.out
set_option maxHeartbeats 2000000 in
theorem take_yes (v peer : Int) (n : Nat) (P G : Nat → Int) (hyes : takeR v P G n peer = true) (w : World) :
    Calls Try.prog 10 #[rosV v P G, .int .i64 (n : Int), .int .i64 peer] w fun e w' => e = .returned (.tuple #[rosV (v + 1) (updI P n peer) (updI G n (G n + 1)), .int .i64 0]) ∧ Below w.heap.size w w' := by
  unfold takeR at hyes
  simp only [Bool.and_eq_true, decide_eq_true_eq] at hyes
  obtain ⟨⟨⟨⟨hs, h1⟩, h2⟩, hall⟩, hg⟩ := hyes
  obtain ⟨n', hnn, hn, hm, hv0, hv1, hpn⟩ := seat_slot hs
  obtain rfl : n = n' := by omega
  rw [all_ne] at hall
  rw [Int.toNat_natCast] at hg
  have d1 := decide_eq_false (show ¬ peer < 0 by omega)
  have d2 := decide_eq_false (show ¬ 12 ≤ peer by omega)
  have hg0 := (may_range hm n hn).2.2.1
  have HAll := Lib.hid hall
  clear hnn hm hpn hall
  have HSr := Lib.hid hs
  clear hs
  unfold rosV
  go_enter Try.func10, Try.ntmps10
  go_wp2_with (refine wpList_load_mid rfl 27 _ rfl w.heap.size 0 rfl (rosL v P G) _ (rosAt_box v P G w _).range Try.underlying27 rfl (size_27 v P G) ?_)
  have hz1 : (w.alloc (Obj.cells (rosL v P G).toArray 27)).heap.size = w.heap.size + 1 := by simp
  have hr := rosAt_new v P G 27 w
  have hb1 := (Below.refl w.heap.size w).alloc (Nat.le_refl _) (Obj.cells (rosL v P G).toArray 27)
  generalize w.alloc (Obj.cells (rosL v P G).toArray 27) = w1 at hr hz1 hb1 ⊢
  have hA := Below.heap_alloc w1 (Obj.cells #[.int .i64 0, .int .i64 0, .int .i64 0, .int .i64 0, .int .i64 0, .int .i64 0, .int .i64 0, .int .i64 0, .int .i64 0, .int .i64 0, .int .i64 0, .int .i64 0, .int .i64 0, .int .i64 0, .int .i64 0, .int .i64 0, .int .i64 0] 27) w.heap.size (by omega)
  have hr0 := hr.block hA
  have hr1 : RosAt (w1.alloc (Obj.cells #[.int .i64 0, .int .i64 0, .int .i64 0, .int .i64 0, .int .i64 0, .int .i64 0, .int .i64 0, .int .i64 0, .int .i64 0, .int .i64 0, .int .i64 0, .int .i64 0, .int .i64 0, .int .i64 0, .int .i64 0, .int .i64 0, .int .i64 0] 27)) w1.heap.size 0 (fun _ => 0) (fun _ => 0) := rosAt_new 0 (fun _ => 0) (fun _ => 0) 27 w1
  have hb2 := hb1.alloc (by omega) (Obj.cells #[.int .i64 0, .int .i64 0, .int .i64 0, .int .i64 0, .int .i64 0, .int .i64 0, .int .i64 0, .int .i64 0, .int .i64 0, .int .i64 0, .int .i64 0, .int .i64 0, .int .i64 0, .int .i64 0, .int .i64 0, .int .i64 0, .int .i64 0] 27)
  have hz2 : (w1.alloc (Obj.cells #[.int .i64 0, .int .i64 0, .int .i64 0, .int .i64 0, .int .i64 0, .int .i64 0, .int .i64 0, .int .i64 0, .int .i64 0, .int .i64 0, .int .i64 0, .int .i64 0, .int .i64 0, .int .i64 0, .int .i64 0, .int .i64 0, .int .i64 0] 27)).heap.size = w.heap.size + 2 := by simp; omega
  generalize w1.alloc (Obj.cells #[.int .i64 0, .int .i64 0, .int .i64 0, .int .i64 0, .int .i64 0, .int .i64 0, .int .i64 0, .int .i64 0, .int .i64 0, .int .i64 0, .int .i64 0, .int .i64 0, .int .i64 0, .int .i64 0, .int .i64 0, .int .i64 0, .int .i64 0] 27) = w2 at *
  rw [hz1] at hr1
  clear hr hb1 hA
  refine (seat_v v _ false P G _).mono ?_
  rintro e w3 ⟨rfl, hb3⟩
  have HB := Lib.hid (hb2.trans (hb3.mono (by omega)))
  have HR0 := Lib.hid (hr0.block (hb3.block _ hr0.lt))
  have HR1 := Lib.hid (hr1.block (hb3.block _ hr1.lt))
  have hz3 : w.heap.size + 2 ≤ w3.heap.size := by have := hb3.size; omega
  clear hr0 hr1 hb2 hb3 hz1 hz2
  generalize hb0 : w.heap.size = b at *
  have HB0 := Lib.hid hb0
  clear hb0
  rw [HSr.out]
  go_wp2_with (first | (refine wpList_load_g (by rfl) 27 _ rfl b 0 rfl _ _ HR0.out.range Try.underlying27 rfl (size_27 v P G) ?_) | (refine wpList_store_mid rfl 27 _ _ rfl (b + 1) 0 _ rfl rfl (HR1.out.there' v P G) (size_27' v P G) (rosL_one v P G) ?_))
  refine (of_v v peer P G _).mono ?_
  rintro e w4 ⟨⟨r, rfl, hr⟩, hb4⟩
  have HB4 := Lib.hid (HB.out.trans (hb4.mono (by omega)))
  have HR04 := Lib.hid (HR0.out.block (hb4.block _ HR0.out.lt))
  have HR14 := Lib.hid (HR1.out.block (hb4.block _ HR1.out.lt))
  clear HB HR0 HR1 hb4
  have HB := HB4
  have HR0 := HR04
  have HR1 := HR14
  clear HB4 HR04 HR14
  rcases hr with ⟨rfl, hr⟩ | ⟨q, hq, rfl, hq2, -, -, -⟩
  · clear hr
    have cg := HR0.out.g n hn
    have cp := HR0.out.p n hn
    have fg := HR0.out.fg n hn
    have fp := HR0.out.fp n hn
    have c0 := HR0.out.c0
    have f0 := HR0.out.f0
    have hg' : decide (60000 ≤ G n) = false := decide_eq_false (by omega)
    have hw1 : wrap64 (v + 1) = v + 1 := by unfold wrap64; omega
    have hw2 : wrap64 (G n + 1) = G n + 1 := by unfold wrap64; omega
    have HR2 := Lib.hid (((HR0.out.setP n peer).setG n (G n + 1)).setV (v + 1))
    have HT1 := Lib.hid (HR1.out.block (w' := ((w4.setCell ⟨b, 1 + n * 2, none⟩ (.int .i64 peer)).setCell ⟨b, 1 + n * 2 + 1, none⟩ (.int .i64 (G n + 1))).setCell ⟨b, 0, none⟩ (.int .i64 (v + 1))) (by
      rw [Below.heap_setCell _ _ _ _ (by show _ ≠ _; simp), Below.heap_setCell _ _ _ _ (by show _ ≠ _; simp), Below.heap_setCell _ _ _ _ (by show _ ≠ _; simp)]))
    generalize hgn : G n = g at *
    have HGn := Lib.hid hgn
    clear HAll HSr hgn
    have hst := run_store_ros HT1.out.there (v + 1) (updI P n peer) (updI G n (g + 1))
    go_wp2_with (refine wpList_load_mid rfl 27 _ rfl b 0 rfl _ _ HR2.out.range Try.underlying27 rfl (size_27 _ _ _) ?_)
    refine bodyPost_ret (results_cell rfl _ _ (b + 1) rfl _ _ _ (rosAt_stored HT1.out.there _ _ _)) rfl ⟨by rw [HGn.out]; rfl, ?_⟩
    rw [HB0.out]
    exact below_setCells _ (by omega) _ _ (((HB.out.setCell (Nat.le_refl _) _).setCell (Nat.le_refl _) _).setCell (Nat.le_refl _) _)
  · exact absurd hq2 (HAll.out q hq)
end Go.Proofs.Ythjabcogbjdkiaa
