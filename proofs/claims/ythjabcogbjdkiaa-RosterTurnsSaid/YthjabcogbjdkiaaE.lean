/-
  Roster: a roster as a row of cells; Give.
-/
import Derived.Test.YthjabcogbjdkiaaD
import Derived.Deep.MidRow
namespace Go.Proofs.Ythjabcogbjdkiaa
set_option linter.unusedVariables false
open Go.ChangeShapes Go.WideShapes Go.ChangeAt Go.RowKit

def rosF (v : Int) (P G : Nat → Int) (k : Nat) : Int := if k = 0 then v else if k % 2 = 1 then P (k / 2) else G (k / 2 - 1)
def rosL (v : Int) (P G : Nat → Int) : List Value := (List.range 17).map fun k => .int .i64 (rosF v P G k)
/-- A roster as a value. -/
def rosV (v : Int) (P G : Nat → Int) : Value := .agg (rosL v P G).toArray
theorem rosV_eq (v : Int) (P G : Nat → Int) : rosV v P G = .agg #[.int .i64 v, .int .i64 (P 0), .int .i64 (G 0), .int .i64 (P 1), .int .i64 (G 1), .int .i64 (P 2), .int .i64 (G 2), .int .i64 (P 3), .int .i64 (G 3), .int .i64 (P 4), .int .i64 (G 4), .int .i64 (P 5), .int .i64 (G 5), .int .i64 (P 6), .int .i64 (G 6), .int .i64 (P 7), .int .i64 (G 7)] := rfl
theorem rosL_len (v : Int) (P G : Nat → Int) : (rosL v P G).length = 17 := by unfold rosL; rw [List.length_map, List.length_range]
theorem rosL_get (v : Int) (P G : Nat → Int) (k : Nat) (hk : k < 17) : (rosL v P G)[k]? = some (.int .i64 (rosF v P G k)) := by
  unfold rosL; rw [List.getElem?_map, List.getElem?_range hk]; rfl
theorem rosL_one (v : Int) (P G : Nat → Int) : (rosL v P G).toArray.all (·.oneCell') = true := all_oneCell_toArray (by
  unfold rosL; intro x hx; rw [List.mem_map] at hx; obtain ⟨k, -, rfl⟩ := hx; rfl)
/-- A roster in memory. -/
structure RosAt (w : World) (b : Nat) (v : Int) (P G : Nat → Int) : Prop where
  cell : ∀ k, k < 17 → w.cell? ⟨b, k, none⟩ = some (.int .i64 (rosF v P G k))
  fz : ∀ k, k < 17 → w.frozen? ⟨b, k, none⟩ = false
section
variable {w w' : World} {b : Nat} {v : Int} {P G : Nat → Int}
theorem RosAt.block (a : RosAt w b v P G) (k : w'.heap[b]? = w.heap[b]?) : RosAt w' b v P G :=
  ⟨fun j hj => (World.cell?_of_block k).trans (a.cell j hj), fun j hj => (World.frozen?_of_block k).trans (a.fz j hj)⟩
theorem RosAt.lt (a : RosAt w b v P G) : b < w.heap.size := block_of_cell (a.cell 0 (by decide))
theorem RosAt.c0 (a : RosAt w b v P G) : w.cell? ⟨b, 0, none⟩ = some (.int .i64 v) := a.cell 0 (by decide)
theorem RosAt.f0 (a : RosAt w b v P G) : w.frozen? ⟨b, 0, none⟩ = false := a.fz 0 (by decide)
theorem rosF_p (v : Int) (P G : Nat → Int) (n : Nat) : rosF v P G (1 + n * 2) = P n := by
  unfold rosF
  rw [if_neg (by omega), if_pos (by omega), show (1 + n * 2) / 2 = n by omega]
theorem rosF_g (v : Int) (P G : Nat → Int) (n : Nat) : rosF v P G (1 + n * 2 + 1) = G n := by
  unfold rosF
  rw [if_neg (by omega), if_neg (by omega), show (1 + n * 2 + 1) / 2 - 1 = n by omega]
theorem RosAt.p (a : RosAt w b v P G) (n : Nat) (hn : n < 8) : w.cell? ⟨b, 1 + n * 2, none⟩ = some (.int .i64 (P n)) := by
  rw [a.cell _ (by omega), rosF_p]
theorem RosAt.g (a : RosAt w b v P G) (n : Nat) (hn : n < 8) : w.cell? ⟨b, 1 + n * 2 + 1, none⟩ = some (.int .i64 (G n)) := by
  rw [a.cell _ (by omega), rosF_g]
theorem RosAt.fp (a : RosAt w b v P G) (n : Nat) (hn : n < 8) : w.frozen? ⟨b, 1 + n * 2, none⟩ = false := a.fz _ (by omega)
theorem RosAt.fg (a : RosAt w b v P G) (n : Nat) (hn : n < 8) : w.frozen? ⟨b, 1 + n * 2 + 1, none⟩ = false := a.fz _ (by omega)
theorem RosAt.seats (a : RosAt w b v P G) : SeatsAt w b P G := ⟨a.p, a.g⟩
theorem RosAt.range (a : RosAt w b v P G) : w.rangeAt b 0 (rosL v P G) := by
  intro j x hx
  have hj : j < 17 := by have := (List.getElem?_eq_some_iff.1 hx).1; rw [rosL_len] at this; exact this
  rw [rosL_get _ _ _ _ hj] at hx
  rw [Nat.zero_add, a.cell j hj]; exact hx
theorem RosAt.there (a : RosAt w b v P G) : w.there b 0 17 := fun j hj => by
  rw [Nat.zero_add, a.cell j hj, a.fz j hj]; exact ⟨rfl, rfl⟩
theorem RosAt.there' (a : RosAt w b v P G) (v' : Int) (P' G' : Nat → Int) : w.there b 0 (rosL v' P' G').toArray.size := by
  rw [List.size_toArray, rosL_len]; exact a.there
theorem rosAt_stored (h : w.there b 0 17) (v : Int) (P G : Nat → Int) : RosAt (w.setCells b 0 (rosL v P G)) b v P G := by
  constructor
  · intro k hk
    have := World.rangeAt_setCells_same w b 0 (rosL v P G) (by rw [rosL_len]; exact h) k _ (rosL_get v P G k hk)
    rwa [Nat.zero_add] at this
  · intro k hk
    rw [World.frozen?_setCells]
    have := (h k hk).2
    rwa [Nat.zero_add] at this
theorem rosAt_new (v : Int) (P G : Nat → Int) (T : TypeId) (w : World) : RosAt (w.alloc (Obj.cells (rosL v P G).toArray T)) w.heap.size v P G := by
  constructor
  · intro k hk
    rw [World.cell?_alloc_new, List.getElem?_toArray, rosL_get _ _ _ _ hk]
  · intro k hk
    rw [World.frozen?_alloc_new]
theorem zero_eq : (#[.int .i64 0, .int .i64 0, .int .i64 0, .int .i64 0, .int .i64 0, .int .i64 0, .int .i64 0, .int .i64 0, .int .i64 0, .int .i64 0, .int .i64 0, .int .i64 0, .int .i64 0, .int .i64 0, .int .i64 0, .int .i64 0, .int .i64 0] : Array Value) = (rosL 0 (fun _ => 0) (fun _ => 0)).toArray := rfl
def updI (f : Nat → Int) (k : Nat) (x : Int) : Nat → Int := fun n => if n = k then x else f n
theorem RosAt.set (a : RosAt w b v P G) (k : Nat) (x : Int) {v' : Int} {P' G' : Nat → Int} (h : ∀ j, rosF v' P' G' j = if j = k then x else rosF v P G j) : RosAt (w.setCell ⟨b, k, none⟩ (.int .i64 x)) b v' P' G' := by
  constructor
  · intro j hj
    rw [h]
    by_cases e : j = k
    · subst e
      rw [if_pos rfl]
      exact World.cell?_setCell_same _ _ _ (a.cell j hj)
    · rw [if_neg e, World.cell?_setCell_other _ _ _ _ (by simp only [ne_eq, Addr.mk.injEq, true_and, and_true]; omega)]
      exact a.cell j hj
  · intro j hj
    rw [World.frozen?_setCell]; exact a.fz j hj
theorem RosAt.setV (a : RosAt w b v P G) (x : Int) : RosAt (w.setCell ⟨b, 0, none⟩ (.int .i64 x)) b x P G := a.set 0 x fun j => by
  unfold rosF; split <;> rfl
theorem RosAt.setP (a : RosAt w b v P G) (n : Nat) (x : Int) : RosAt (w.setCell ⟨b, 1 + n * 2, none⟩ (.int .i64 x)) b v (updI P n x) G := a.set _ x fun j => by
  unfold rosF updI
  by_cases h0 : j = 0
  · rw [if_pos h0, if_pos h0, if_neg (by omega)]
  · rw [if_neg h0, if_neg h0]
    by_cases h1 : j % 2 = 1
    · rw [if_pos h1, if_pos h1]
      by_cases h2 : j = 1 + n * 2
      · rw [if_pos h2, if_pos (by omega)]
      · rw [if_neg h2, if_neg (by omega)]
    · rw [if_neg h1, if_neg h1, if_neg (by omega)]
theorem RosAt.setG (a : RosAt w b v P G) (n : Nat) (x : Int) : RosAt (w.setCell ⟨b, 1 + n * 2 + 1, none⟩ (.int .i64 x)) b v P (updI G n x) := a.set _ x fun j => by
  unfold rosF updI
  by_cases h0 : j = 0
  · rw [if_pos h0, if_pos h0, if_neg (by omega)]
  · rw [if_neg h0, if_neg h0]
    by_cases h1 : j % 2 = 1
    · rw [if_pos h1, if_pos h1, if_neg (by omega)]
    · rw [if_neg h1, if_neg h1]
      by_cases h2 : j = 1 + n * 2 + 1
      · rw [if_pos h2, if_pos (by omega)]
      · rw [if_neg h2, if_neg (by omega)]
end
theorem may_v (v : Int) (P G : Nat → Int) (w : World) : Calls Try.prog 11 #[rosV v P G] w fun e w' => e = .returned (.bool (mayR v P G)) ∧ Below w.heap.size w w' := by
  rw [rosV_eq]; exact may_any v P G w
theorem of_v (v peer : Int) (P G : Nat → Int) (w : World) : Calls Try.prog 7 #[rosV v P G, .int .i64 peer] w fun e w' => (∃ r : Int, e = .returned (.int .i64 r) ∧ OfSpec v P G peer r) ∧ Below w.heap.size w w' := by
  rw [rosV_eq]; exact of_any v peer P G w
theorem seat_v (v slot : Int) (had : Bool) (P G : Nat → Int) (w : World) : Calls Try.prog 17 #[rosV v P G, .int .i64 slot, .bool had] w fun e w' => e = .returned (.bool (seatR v P G slot had)) ∧ Below w.heap.size w w' := by
  rw [rosV_eq]; exact seat_any v slot had P G w
theorem size_27 (v : Int) (P G : Nat → Int) : (Try.prog.info? 27).map (·.size) = some (rosL v P G).length := by rw [rosL_len]; kernel_rfl
theorem size_27' (v : Int) (P G : Nat → Int) : (Try.prog.info? 27).map (·.size) = some (rosL v P G).toArray.size := by rw [List.size_toArray, rosL_len]; kernel_rfl
theorem rosAt_box (v : Int) (P G : Nat → Int) (w : World) (o : Obj) : RosAt ((w.alloc (Obj.cells (rosL v P G).toArray 27)).alloc o) w.heap.size v P G :=
  (rosAt_new v P G 27 w).block (Below.heap_alloc _ _ _ (by simp))
theorem below_setCells {B : Nat} {a : World} (b : Nat) (hb : B ≤ b) : ∀ (vs : List Value) (o : Nat) {w : World}, Below B a w → Below B a (w.setCells b o vs)
  | [], _, _, h => h
  | v :: r, o, w, h => by
    rw [World.setCells]
    exact below_setCells b hb r (o + 1) (h.setCell hb v)
theorem results_cell {fn : Func} {t u : Tmp} (h : fn.results = #[.cell t 27, .tmp u]) (tmps : Array Value) (w : World) (b : Nat) (hb : tmps.getD t undef = .pointer (some ⟨b, 0, none⟩)) (v : Int) (P G : Nat → Int) (hr : RosAt w b v P G) :
    (results fn tmps).run Try.prog w = .ok (.tuple #[rosV v P G, tmps.getD u undef]) w := by
  have hl := run_loadVar_mid (P := Try.prog) w b 0 27 (rosL v P G) _ hr.range Try.underlying27 rfl (size_27 v P G)
  have hb' : tmps[t]?.getD undef = .pointer (some ⟨b, 0, none⟩) := by simpa using hb
  simp [results, h, hb', asAddr, hl, rosV]
set_option maxHeartbeats 2000000 in
theorem give_no (v slot : Int) (P G : Nat → Int) (hno : seatR v P G slot true = false) (w : World) :
    Calls Try.prog 9 #[rosV v P G, .int .i64 slot] w fun e w' => e = .returned (.tuple #[rosV v P G, .int .i64 1]) ∧ Below w.heap.size w w' := by
  unfold rosV
  go_enter Try.func9, Try.ntmps9
  go_wp2_with (refine wpList_load_mid rfl 27 _ rfl w.heap.size 0 rfl (rosL v P G) _ (rosAt_box v P G w _).range Try.underlying27 rfl (size_27 v P G) ?_)
  have hz1 : (w.alloc (Obj.cells (rosL v P G).toArray 27)).heap.size = w.heap.size + 1 := by simp
  have hr := rosAt_new v P G 27 w
  have hb1 := (Below.refl w.heap.size w).alloc (Nat.le_refl _) (Obj.cells (rosL v P G).toArray 27)
  generalize w.alloc (Obj.cells (rosL v P G).toArray 27) = w1 at hr hz1 hb1 ⊢
  have hA := Below.heap_alloc w1 (Obj.cells #[.int .i64 0, .int .i64 0, .int .i64 0, .int .i64 0, .int .i64 0, .int .i64 0, .int .i64 0, .int .i64 0, .int .i64 0, .int .i64 0, .int .i64 0, .int .i64 0, .int .i64 0, .int .i64 0, .int .i64 0, .int .i64 0, .int .i64 0] 27) w.heap.size (by omega)
  have hr0 := hr.block hA
  have hr1 : RosAt (w1.alloc (Obj.cells #[.int .i64 0, .int .i64 0, .int .i64 0, .int .i64 0, .int .i64 0, .int .i64 0, .int .i64 0, .int .i64 0, .int .i64 0, .int .i64 0, .int .i64 0, .int .i64 0, .int .i64 0, .int .i64 0, .int .i64 0, .int .i64 0, .int .i64 0] 27)) w1.heap.size 0 (fun _ => 0) (fun _ => 0) := rosAt_new 0 (fun _ => 0) (fun _ => 0) 27 w1
  have hb2 := hb1.alloc (by omega) (Obj.cells #[.int .i64 0, .int .i64 0, .int .i64 0, .int .i64 0, .int .i64 0, .int .i64 0, .int .i64 0, .int .i64 0, .int .i64 0, .int .i64 0, .int .i64 0, .int .i64 0, .int .i64 0, .int .i64 0, .int .i64 0, .int .i64 0, .int .i64 0] 27)
  have hz2 : (w1.alloc (Obj.cells #[.int .i64 0, .int .i64 0, .int .i64 0, .int .i64 0, .int .i64 0, .int .i64 0, .int .i64 0, .int .i64 0, .int .i64 0, .int .i64 0, .int .i64 0, .int .i64 0, .int .i64 0, .int .i64 0, .int .i64 0, .int .i64 0, .int .i64 0] 27)).heap.size = w.heap.size + 2 := by simp; omega
  generalize w1.alloc (Obj.cells #[.int .i64 0, .int .i64 0, .int .i64 0, .int .i64 0, .int .i64 0, .int .i64 0, .int .i64 0, .int .i64 0, .int .i64 0, .int .i64 0, .int .i64 0, .int .i64 0, .int .i64 0, .int .i64 0, .int .i64 0, .int .i64 0, .int .i64 0] 27) = w2 at *
  rw [hz1] at hr1
  clear hr hb1 hA
  refine (seat_v v _ true P G _).mono ?_
  rintro e w3 ⟨rfl, hb3⟩
  have HB := Lib.hid (hb2.trans (hb3.mono (by omega)))
  have HR0 := Lib.hid (hr0.block (hb3.block _ hr0.lt))
  have HR1 := Lib.hid (hr1.block (hb3.block _ hr1.lt))
  clear hr0 hr1 hb2 hb3 hz1 hz2
  generalize hb0 : w.heap.size = b at *
  have HB0 := Lib.hid hb0
  clear hb0
  rw [hno]
  go_wp2_with (first | (refine wpList_load_mid rfl 27 _ rfl b 0 rfl _ _ HR0.out.range Try.underlying27 rfl (size_27 v P G) ?_) | (refine wpList_store_mid rfl 27 _ _ rfl (b + 1) 0 _ rfl rfl (HR1.out.there' v P G) (size_27' v P G) (rosL_one v P G) ?_))
  refine bodyPost_ret (results_cell rfl _ _ (b + 1) rfl v P G (rosAt_stored HR1.out.there v P G)) rfl ⟨rfl, ?_⟩
  rw [HB0.out]
  exact below_setCells _ (by omega) _ _ HB.out
set_option maxHeartbeats 2000000 in
theorem give_yes (v : Int) (n : Nat) (P G : Nat → Int) (hn : n < 8) (hyes : seatR v P G n true = true) (w : World) :
    Calls Try.prog 9 #[rosV v P G, .int .i64 (n : Int)] w fun e w' => e = .returned (.tuple #[rosV (v + 1) (updI P n (-1)) G, .int .i64 0]) ∧ Below w.heap.size w w' := by
  have hv : 0 ≤ v ∧ v < 1073741824 := by
    unfold seatR mayR at hyes
    simp only [Bool.and_eq_true, decide_eq_true_eq] at hyes
    omega
  unfold rosV
  go_enter Try.func9, Try.ntmps9
  go_wp2_with (refine wpList_load_mid rfl 27 _ rfl w.heap.size 0 rfl (rosL v P G) _ (rosAt_box v P G w _).range Try.underlying27 rfl (size_27 v P G) ?_)
  have hz1 : (w.alloc (Obj.cells (rosL v P G).toArray 27)).heap.size = w.heap.size + 1 := by simp
  have hr := rosAt_new v P G 27 w
  have hb1 := (Below.refl w.heap.size w).alloc (Nat.le_refl _) (Obj.cells (rosL v P G).toArray 27)
  generalize w.alloc (Obj.cells (rosL v P G).toArray 27) = w1 at hr hz1 hb1 ⊢
  have hA := Below.heap_alloc w1 (Obj.cells #[.int .i64 0, .int .i64 0, .int .i64 0, .int .i64 0, .int .i64 0, .int .i64 0, .int .i64 0, .int .i64 0, .int .i64 0, .int .i64 0, .int .i64 0, .int .i64 0, .int .i64 0, .int .i64 0, .int .i64 0, .int .i64 0, .int .i64 0] 27) w.heap.size (by omega)
  have hr0 := hr.block hA
  have hr1 : RosAt (w1.alloc (Obj.cells #[.int .i64 0, .int .i64 0, .int .i64 0, .int .i64 0, .int .i64 0, .int .i64 0, .int .i64 0, .int .i64 0, .int .i64 0, .int .i64 0, .int .i64 0, .int .i64 0, .int .i64 0, .int .i64 0, .int .i64 0, .int .i64 0, .int .i64 0] 27)) w1.heap.size 0 (fun _ => 0) (fun _ => 0) := rosAt_new 0 (fun _ => 0) (fun _ => 0) 27 w1
  have hb2 := hb1.alloc (by omega) (Obj.cells #[.int .i64 0, .int .i64 0, .int .i64 0, .int .i64 0, .int .i64 0, .int .i64 0, .int .i64 0, .int .i64 0, .int .i64 0, .int .i64 0, .int .i64 0, .int .i64 0, .int .i64 0, .int .i64 0, .int .i64 0, .int .i64 0, .int .i64 0] 27)
  have hz2 : (w1.alloc (Obj.cells #[.int .i64 0, .int .i64 0, .int .i64 0, .int .i64 0, .int .i64 0, .int .i64 0, .int .i64 0, .int .i64 0, .int .i64 0, .int .i64 0, .int .i64 0, .int .i64 0, .int .i64 0, .int .i64 0, .int .i64 0, .int .i64 0, .int .i64 0] 27)).heap.size = w.heap.size + 2 := by simp; omega
  generalize w1.alloc (Obj.cells #[.int .i64 0, .int .i64 0, .int .i64 0, .int .i64 0, .int .i64 0, .int .i64 0, .int .i64 0, .int .i64 0, .int .i64 0, .int .i64 0, .int .i64 0, .int .i64 0, .int .i64 0, .int .i64 0, .int .i64 0, .int .i64 0, .int .i64 0] 27) = w2 at *
  rw [hz1] at hr1
  clear hr hb1 hA
  refine (seat_v v _ true P G _).mono ?_
  rintro e w3 ⟨rfl, hb3⟩
  have HB := Lib.hid (hb2.trans (hb3.mono (by omega)))
  have HR0 := Lib.hid (hr0.block (hb3.block _ hr0.lt))
  have HR1 := Lib.hid (hr1.block (hb3.block _ hr1.lt))
  clear hr0 hr1 hb2 hb3 hz1 hz2
  generalize hb0 : w.heap.size = b at *
  have HB0 := Lib.hid hb0
  clear hb0
  have c0 := HR0.out.c0
  have f0 := HR0.out.f0
  have cp := HR0.out.p n hn
  have fp := HR0.out.fp n hn
  rw [hyes]
  have hw1 : wrap64 (v + 1) = v + 1 := by unfold wrap64; omega
  have HR2 := Lib.hid ((HR0.out.setP n (-1)).setV (v + 1))
  have HT1 := Lib.hid (((HR1.out.block (w' := (w3.setCell ⟨b, 1 + n * 2, none⟩ (.int .i64 (-1))).setCell ⟨b, 0, none⟩ (.int .i64 (v + 1))) (by
    rw [Below.heap_setCell _ _ _ _ (by show _ ≠ _; simp), Below.heap_setCell _ _ _ _ (by show _ ≠ _; simp)]))))
  go_wp2_with (first | (refine wpList_load_mid rfl 27 _ rfl b 0 rfl _ _ HR2.out.range Try.underlying27 rfl (size_27 _ _ _) ?_) | (refine wpList_store_mid rfl 27 _ _ rfl (b + 1) 0 _ rfl rfl (HT1.out.there' _ _ _) (size_27' _ _ _) (rosL_one _ _ _) ?_))
  refine bodyPost_ret (results_cell rfl _ _ (b + 1) rfl _ _ _ (rosAt_stored HT1.out.there _ _ _)) rfl ⟨rfl, ?_⟩
  rw [HB0.out]
  exact below_setCells _ (by omega) _ _ ((HB.out.setCell (Nat.le_refl _) _).setCell (Nat.le_refl _) _)
end Go.Proofs.Ythjabcogbjdkiaa
