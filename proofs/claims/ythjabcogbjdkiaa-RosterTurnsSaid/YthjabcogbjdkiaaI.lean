/-
  Roster: Apply.
-/
import Derived.Test.YthjabcogbjdkiaaH
namespace Go.Proofs.Ythjabcogbjdkiaa
set_option linter.unusedVariables false
open Go.ChangeShapes Go.WideShapes Go.ChangeAt Go.RowKit

section
variable {P : Program} {ops : Array Oper} {md : Region.Mode} {S C : World → Prop}
theorem wpAnyH_of_quiet {Q : Act → Prop} {Q' : Exit → Act → World → Prop} (hS : ∀ w, C w → S w) (hQ : ∀ a w, C w → Q a → Q' .normal a w) : ∀ (fuel : Nat) (listed : Array Bool) (a : Act) (w : World), C w →
    wpAnyQ P md ops C Q fuel listed a → wpAnyH P md ops Q' S fuel listed a w
  | 0, _, _, _, hw, h => ⟨h.1, hQ _ _ hw h.2⟩
  | fuel + 1, _, _, _, hw, h => ⟨fun h0 => hQ _ _ hw (h.1 h0), fun i hi => wpOp_of_qOp hw (fun a' w' hw' h' => ⟨hS _ hw', wpAnyH_of_quiet hS hQ fuel _ a' w' hw' h'⟩) (h.2 i hi)⟩
/-- From the operation k on everything is quiet: one walk of what is left serves every order. -/
theorem wpAnyH_quiet_tail {Q : Exit → Act → World → Prop} {l rest : List Oper} {o : Oper} (k : Nat) {listed : Array Bool} {a : Act} {w : World} {fuel : Nat} (hr : l.drop k = o :: rest) (hn : rest.length + 1 = fuel) (hs : Region.noSelect l.toArray = true)
    (hB : Region.lexFrom md l.toArray (rest.length + 1) k listed = true) (hC : C w) (hS : ∀ w, C w → S w)
    (h : wpQuiet P l.toArray C (fun a' => ∀ w', C w' → Q .normal a' w') (o :: rest) a) : wpAnyH P md l.toArray Q S fuel listed a w := by
  subst hn
  refine wpAnyH_of_quiet (Q := fun a' => ∀ w', C w' → Q .normal a' w') hS (fun _ w' hw' h => h w' hw') _ _ _ _ hC ?_
  exact wpAnyQ_lex hs (o :: rest) k listed a (fun j => by rw [← hr]; simp) hB h
theorem take_l {Q : Exit → Act → World → Prop} {l rest : List Oper} {i : Nat} {oi : Oper} {v : Value} {fuel : Nat} {listed : Array Bool} {a : Act} {w : World} (hi : l.drop i = oi :: rest)
    (hs : Region.noSelect l.toArray = true) (hf : Region.free md l.toArray listed i = true) (hr : (Region.ready md l.toArray listed).contains i = true)
    (hQ : ∀ c a w, Q (.panic c) (a.put oi.dst v) w → Q (.panic c) a w) (hy : YieldsIf P l.toArray S oi v a) (hS : S w)
    (h : wpAnyH P md l.toArray Q S fuel (listed.setIfInBounds i true) (a.put oi.dst v) w) : wpAnyH P md l.toArray Q S (fuel + 1) listed a w :=
  wpAnyH_take (i := i) (oi := oi) (by have := congrArg (fun x => x[0]?) hi; simpa using this) hs hf hr hQ hy hS h
theorem cons_l {Q : Exit → Act → World → Prop} {l rest : List Oper} {i : Nat} {o : Oper} {fuel : Nat} {listed : Array Bool} {a : Act} {w : World} (hi : l.drop i = o :: rest) (hr : Region.ready md l.toArray listed = [i])
    (h : ∀ K' : Act → World → Prop, Shut (∀ a w, S w → (S w → wpAnyH P md l.toArray Q S fuel (listed.setIfInBounds i true) a w) → K' a w) → if Region.wanted o (yielded l.toArray a.tmps) = true then Oper.wp P o a w K' Q else K' (a.put o.dst undef) w) : wpAnyH P md l.toArray Q S (fuel + 1) listed a w :=
  wpAnyH_ready (rs := [i]) hr (by simp) (AllReadyH.cons (by have := congrArg (fun x => x[0]?) hi; simpa using this) h AllReadyH.nil)
end
structure LvS (w : World) (b : Nat) (v : Int) (P G : Nat → Int) (k : Int) (n : Nat) (g p : Int) (w' : World) : Prop where
  r : RosAt w' b v P G
  e : EvAt w' (b + 1) k n g p
  z : RosAt w' (b + 1 + 1) 0 (fun _ => 0) (fun _ => 0)
  bel : Below b w w'
  sz : b + 3 ≤ w'.heap.size
theorem LvS.below {w w1 w2 : World} {b : Nat} {v : Int} {P G : Nat → Int} {k : Int} {n : Nat} {g p : Int} (a : LvS w b v P G k n g p w1) (h : Below w1.heap.size w1 w2) : LvS w b v P G k n g p w2 := by
  have := a.sz
  exact ⟨a.r.block (h.block _ a.r.lt), ⟨(h.cell (p := ⟨b + 1, 0, none⟩) (by show b + 1 < _; omega)).trans a.e.c0, (h.cell (p := ⟨b + 1, 1, none⟩) (by show b + 1 < _; omega)).trans a.e.c1, (h.cell (p := ⟨b + 1, 2, none⟩) (by show b + 1 < _; omega)).trans a.e.c2, (h.cell (p := ⟨b + 1, 3, none⟩) (by show b + 1 < _; omega)).trans a.e.c3⟩, a.z.block (h.block _ a.z.lt), a.bel.trans (h.mono (by omega)), Nat.le_trans this h.size⟩
theorem seat_here {v : Int} {n : Nat} {P G : Nat → Int} (h : seatR v P G n true = true) : n < 8 := by
  obtain ⟨n', h1, h2, -⟩ := seat_slot h
  omega
set_option maxHeartbeats 2000000 in
theorem leave_ok (v : Int) (n : Nat) (gen peer : Int) (P G : Nat → Int) (hyes : seatR v P G n true = true) (hp : P n = peer) (hg : G n = gen) (w : World) :
    Calls Try.prog 14 #[rosV v P G, .agg #[.int .i64 2, .int .i64 (n : Int), .int .i64 gen, .int .i64 peer]] w fun e w' => e = .returned (.tuple #[rosV (v + 1) (updI P n (-1)) G, .int .i64 0]) ∧ Below w.heap.size w w' := by
  have hn := seat_here hyes
  unfold rosV
  go_enter Try.func14, Try.ntmps14
  go_wp2_with fail
  have hz1 : (w.alloc (Obj.cells (rosL v P G).toArray 27)).heap.size = w.heap.size + 1 := by simp
  have hr := rosAt_new v P G 27 w
  have hb1 := (Below.refl w.heap.size w).alloc (Nat.le_refl _) (Obj.cells (rosL v P G).toArray 27)
  generalize w.alloc (Obj.cells (rosL v P G).toArray 27) = w1 at hr hz1 hb1 ⊢
  have hz2 : (w1.alloc (Obj.cells #[.int .i64 2, .int .i64 (n : Int), .int .i64 gen, .int .i64 peer] 40)).heap.size = w.heap.size + 2 := by simp; omega
  have hr2 := hr.block (Below.heap_alloc w1 (Obj.cells #[.int .i64 2, .int .i64 (n : Int), .int .i64 gen, .int .i64 peer] 40) w.heap.size (by omega))
  have he := evAt_new 2 n gen peer w1
  rw [hz1] at he
  have hb2 := hb1.alloc (by omega) (Obj.cells #[.int .i64 2, .int .i64 (n : Int), .int .i64 gen, .int .i64 peer] 40)
  generalize w1.alloc (Obj.cells #[.int .i64 2, .int .i64 (n : Int), .int .i64 gen, .int .i64 peer] 40) = w2 at hr2 hz2 hb2 he ⊢
  have hz3 : (w2.alloc (Obj.cells #[.int .i64 0, .int .i64 0, .int .i64 0, .int .i64 0, .int .i64 0, .int .i64 0, .int .i64 0, .int .i64 0, .int .i64 0, .int .i64 0, .int .i64 0, .int .i64 0, .int .i64 0, .int .i64 0, .int .i64 0, .int .i64 0, .int .i64 0] 27)).heap.size = w.heap.size + 3 := by simp; omega
  have hr3 := hr2.block (Below.heap_alloc w2 (Obj.cells #[.int .i64 0, .int .i64 0, .int .i64 0, .int .i64 0, .int .i64 0, .int .i64 0, .int .i64 0, .int .i64 0, .int .i64 0, .int .i64 0, .int .i64 0, .int .i64 0, .int .i64 0, .int .i64 0, .int .i64 0, .int .i64 0, .int .i64 0] 27) w.heap.size (by omega))
  have he3 := he.block (Below.heap_alloc w2 (Obj.cells #[.int .i64 0, .int .i64 0, .int .i64 0, .int .i64 0, .int .i64 0, .int .i64 0, .int .i64 0, .int .i64 0, .int .i64 0, .int .i64 0, .int .i64 0, .int .i64 0, .int .i64 0, .int .i64 0, .int .i64 0, .int .i64 0, .int .i64 0] 27) (w.heap.size + 1) (by omega))
  have hr4 : RosAt (w2.alloc (Obj.cells #[.int .i64 0, .int .i64 0, .int .i64 0, .int .i64 0, .int .i64 0, .int .i64 0, .int .i64 0, .int .i64 0, .int .i64 0, .int .i64 0, .int .i64 0, .int .i64 0, .int .i64 0, .int .i64 0, .int .i64 0, .int .i64 0, .int .i64 0] 27)) w2.heap.size 0 (fun _ => 0) (fun _ => 0) := rosAt_new 0 (fun _ => 0) (fun _ => 0) 27 w2
  rw [hz2] at hr4
  have hb3 := hb2.alloc (by omega) (Obj.cells #[.int .i64 0, .int .i64 0, .int .i64 0, .int .i64 0, .int .i64 0, .int .i64 0, .int .i64 0, .int .i64 0, .int .i64 0, .int .i64 0, .int .i64 0, .int .i64 0, .int .i64 0, .int .i64 0, .int .i64 0, .int .i64 0, .int .i64 0] 27)
  generalize w2.alloc (Obj.cells #[.int .i64 0, .int .i64 0, .int .i64 0, .int .i64 0, .int .i64 0, .int .i64 0, .int .i64 0, .int .i64 0, .int .i64 0, .int .i64 0, .int .i64 0, .int .i64 0, .int .i64 0, .int .i64 0, .int .i64 0, .int .i64 0, .int .i64 0] 27) = w3 at *
  clear hr hr2 he hb1 hb2 hz1 hz2
  subst hp hg
  generalize hb : w.heap.size = b at *
  have HB0 := Lib.hid hb
  have hS : LvS w b v P G 2 n (G n) (P n) w3.drew := ⟨hr3.block rfl, he3.block rfl, hr4.block rfl, hb3.drew, by show b + 3 ≤ w3.heap.size; omega⟩
  clear hb hb3 hr3 he3 hr4 hz3
  have hnI : (n : Int) < 8 := by omega
  refine wp_region_held_drew (S := LvS w b v P G 2 n (G n) (P n)) (by kernel_rfl) hS (fun hS0 => ?_)
  refine take_l (i := 0) (v := .agg (rosL v P G).toArray) (by rfl) (by kernel_rfl) (by kernel_rfl) (by kernel_rfl) (by exact fun _ _ _ h => h) (yieldsIf_load_mid (by rfl) 27 _ rfl b 0 rfl _ _ (fun w' hSw => hSw.r.range) Try.underlying27 rfl (size_27 v P G)) (by assumption) ?_
  try simp only [Act.put, List.setIfInBounds_toArray, List.set_cons_zero, List.set_cons_succ]
  refine take_l (i := 1) (v := ?_) (by rfl) (by kernel_rfl) (by kernel_rfl) (by kernel_rfl) (by exact fun _ _ _ h => h) (Or.inl ⟨by rfl, ?_⟩) (by assumption) ?_
  rotate_left 1
  · (intro w' hSw; have k0 := hSw.e.c0; have k1 := hSw.e.c1; have k2 := hSw.e.c2; have k3 := hSw.e.c3; have kp := hSw.r.p n hn; have kg := hSw.r.g n hn; clear hSw; go_simp; try with_reducible rfl)
  try simp only [Act.put, List.setIfInBounds_toArray, List.set_cons_zero, List.set_cons_succ]
  refine take_l (i := 2) (v := ?_) (by rfl) (by kernel_rfl) (by kernel_rfl) (by kernel_rfl) (by exact fun _ _ _ h => h) (Or.inl ⟨by rfl, ?_⟩) (by assumption) ?_
  rotate_left 1
  · (intro w' hSw; have k0 := hSw.e.c0; have k1 := hSw.e.c1; have k2 := hSw.e.c2; have k3 := hSw.e.c3; have kp := hSw.r.p n hn; have kg := hSw.r.g n hn; clear hSw; go_simp; try with_reducible rfl)
  try simp only [Act.put, List.setIfInBounds_toArray, List.set_cons_zero, List.set_cons_succ]
  refine cons_l (i := 3) (by rfl) (by kernel_rfl) (fun K hK => ?_)
  go_simp
  refine (seat_v v _ true P G _).mono ?_
  rintro e w4 ⟨rfl, hb4⟩
  rw [hyes]
  have hS4 := hS0.below hb4
  go_wp2_with fail
  refine hK.out _ _ hS4 (fun _ => ?_)
  clear hK K hS0 hb4 hS
  try simp only [Act.put, List.setIfInBounds_toArray, List.set_cons_zero, List.set_cons_succ]
  refine take_l (i := 4) (v := ?_) (by rfl) (by kernel_rfl) (by kernel_rfl) (by kernel_rfl) (by exact fun _ _ _ h => h) (Or.inl ⟨by rfl, ?_⟩) (by assumption) ?_
  rotate_left 1
  · (intro w' hSw; have k0 := hSw.e.c0; have k1 := hSw.e.c1; have k2 := hSw.e.c2; have k3 := hSw.e.c3; have kp := hSw.r.p n hn; have kg := hSw.r.g n hn; clear hSw; go_simp; try with_reducible rfl)
  try simp only [Act.put, List.setIfInBounds_toArray, List.set_cons_zero, List.set_cons_succ]
  refine take_l (i := 5) (v := ?_) (by rfl) (by kernel_rfl) (by kernel_rfl) (by kernel_rfl) (by exact fun _ _ _ h => h) (Or.inl ⟨by rfl, ?_⟩) (by assumption) ?_
  rotate_left 1
  · (intro w' hSw; have k0 := hSw.e.c0; have k1 := hSw.e.c1; have k2 := hSw.e.c2; have k3 := hSw.e.c3; have kp := hSw.r.p n hn; have kg := hSw.r.g n hn; clear hSw; go_simp; try with_reducible rfl)
  try simp only [Act.put, List.setIfInBounds_toArray, List.set_cons_zero, List.set_cons_succ]
  refine take_l (i := 6) (v := ?_) (by rfl) (by kernel_rfl) (by kernel_rfl) (by kernel_rfl) (by exact fun _ _ _ h => h) (Or.inl ⟨by rfl, ?_⟩) (by assumption) ?_
  rotate_left 1
  · (intro w' hSw; have k0 := hSw.e.c0; have k1 := hSw.e.c1; have k2 := hSw.e.c2; have k3 := hSw.e.c3; have kp := hSw.r.p n hn; have kg := hSw.r.g n hn; clear hSw; go_simp; try with_reducible rfl)
  try simp only [Act.put, List.setIfInBounds_toArray, List.set_cons_zero, List.set_cons_succ]
  refine take_l (i := 7) (v := ?_) (by rfl) (by kernel_rfl) (by kernel_rfl) (by kernel_rfl) (by exact fun _ _ _ h => h) (Or.inl ⟨by rfl, ?_⟩) (by assumption) ?_
  rotate_left 1
  · (intro w' hSw; have k0 := hSw.e.c0; have k1 := hSw.e.c1; have k2 := hSw.e.c2; have k3 := hSw.e.c3; have kp := hSw.r.p n hn; have kg := hSw.r.g n hn; clear hSw; go_simp; try with_reducible rfl)
  try simp only [Act.put, List.setIfInBounds_toArray, List.set_cons_zero, List.set_cons_succ]
  refine take_l (i := 8) (v := ?_) (by rfl) (by kernel_rfl) (by kernel_rfl) (by kernel_rfl) (by exact fun _ _ _ h => h) (Or.inl ⟨by rfl, ?_⟩) (by assumption) ?_
  rotate_left 1
  · (intro w' hSw; have k0 := hSw.e.c0; have k1 := hSw.e.c1; have k2 := hSw.e.c2; have k3 := hSw.e.c3; have kp := hSw.r.p n hn; have kg := hSw.r.g n hn; clear hSw; go_simp; try with_reducible rfl)
  try simp only [Act.put, List.setIfInBounds_toArray, List.set_cons_zero, List.set_cons_succ]
  refine take_l (i := 9) (v := ?_) (by rfl) (by kernel_rfl) (by kernel_rfl) (by kernel_rfl) (by exact fun _ _ _ h => h) (Or.inl ⟨by rfl, ?_⟩) (by assumption) ?_
  rotate_left 1
  · (intro w' hSw; have k0 := hSw.e.c0; have k1 := hSw.e.c1; have k2 := hSw.e.c2; have k3 := hSw.e.c3; have kp := hSw.r.p n hn; have kg := hSw.r.g n hn; clear hSw; go_simp; try with_reducible rfl)
  try simp only [Act.put, List.setIfInBounds_toArray, List.set_cons_zero, List.set_cons_succ]
  refine take_l (i := 10) (v := ?_) (by rfl) (by kernel_rfl) (by kernel_rfl) (by kernel_rfl) (by exact fun _ _ _ h => h) (Or.inl ⟨by rfl, ?_⟩) (by assumption) ?_
  rotate_left 1
  · (intro w' hSw; have k0 := hSw.e.c0; have k1 := hSw.e.c1; have k2 := hSw.e.c2; have k3 := hSw.e.c3; have kp := hSw.r.p n hn; have kg := hSw.r.g n hn; clear hSw; go_simp; try with_reducible rfl)
  try simp only [Act.put, List.setIfInBounds_toArray, List.set_cons_zero, List.set_cons_succ]
  refine take_l (i := 11) (v := ?_) (by rfl) (by kernel_rfl) (by kernel_rfl) (by kernel_rfl) (by exact fun _ _ _ h => h) (Or.inl ⟨by rfl, ?_⟩) (by assumption) ?_
  rotate_left 1
  · (intro w' hSw; have k0 := hSw.e.c0; have k1 := hSw.e.c1; have k2 := hSw.e.c2; have k3 := hSw.e.c3; have kp := hSw.r.p n hn; have kg := hSw.r.g n hn; clear hSw; go_simp; try with_reducible rfl)
  try simp only [Act.put, List.setIfInBounds_toArray, List.set_cons_zero, List.set_cons_succ]
  refine take_l (i := 12) (v := ?_) (by rfl) (by kernel_rfl) (by kernel_rfl) (by kernel_rfl) (by exact fun _ _ _ h => h) (Or.inl ⟨by rfl, ?_⟩) (by assumption) ?_
  rotate_left 1
  · (intro w' hSw; have k0 := hSw.e.c0; have k1 := hSw.e.c1; have k2 := hSw.e.c2; have k3 := hSw.e.c3; have kp := hSw.r.p n hn; have kg := hSw.r.g n hn; clear hSw; go_simp; try with_reducible rfl)
  try simp only [Act.put, List.setIfInBounds_toArray, List.set_cons_zero, List.set_cons_succ]
  refine take_l (i := 13) (v := ?_) (by rfl) (by kernel_rfl) (by kernel_rfl) (by kernel_rfl) (by exact fun _ _ _ h => h) (Or.inl ⟨by rfl, ?_⟩) (by assumption) ?_
  rotate_left 1
  · (intro w' hSw; have k0 := hSw.e.c0; have k1 := hSw.e.c1; have k2 := hSw.e.c2; have k3 := hSw.e.c3; have kp := hSw.r.p n hn; have kg := hSw.r.g n hn; clear hSw; go_simp; try with_reducible rfl)
  try simp only [Act.put, List.setIfInBounds_toArray, List.set_cons_zero, List.set_cons_succ]
  refine take_l (i := 14) (v := ?_) (by rfl) (by kernel_rfl) (by kernel_rfl) (by kernel_rfl) (by exact fun _ _ _ h => h) (Or.inl ⟨by rfl, ?_⟩) (by assumption) ?_
  rotate_left 1
  · (intro w' hSw; have k0 := hSw.e.c0; have k1 := hSw.e.c1; have k2 := hSw.e.c2; have k3 := hSw.e.c3; have kp := hSw.r.p n hn; have kg := hSw.r.g n hn; clear hSw; go_simp; try with_reducible rfl)
  try simp only [Act.put, List.setIfInBounds_toArray, List.set_cons_zero, List.set_cons_succ]
  refine take_l (i := 15) (v := ?_) (by rfl) (by kernel_rfl) (by kernel_rfl) (by kernel_rfl) (by exact fun _ _ _ h => h) (Or.inl ⟨by rfl, ?_⟩) (by assumption) ?_
  rotate_left 1
  · (intro w' hSw; have k0 := hSw.e.c0; have k1 := hSw.e.c1; have k2 := hSw.e.c2; have k3 := hSw.e.c3; have kp := hSw.r.p n hn; have kg := hSw.r.g n hn; clear hSw; go_simp; try with_reducible rfl)
  try simp only [Act.put, List.setIfInBounds_toArray, List.set_cons_zero, List.set_cons_succ]
  refine take_l (i := 16) (v := ?_) (by rfl) (by kernel_rfl) (by kernel_rfl) (by kernel_rfl) (by exact fun _ _ _ h => h) (Or.inl ⟨by rfl, ?_⟩) (by assumption) ?_
  rotate_left 1
  · (intro w' hSw; have k0 := hSw.e.c0; have k1 := hSw.e.c1; have k2 := hSw.e.c2; have k3 := hSw.e.c3; have kp := hSw.r.p n hn; have kg := hSw.r.g n hn; clear hSw; go_simp; try with_reducible rfl)
  try simp only [Act.put, List.setIfInBounds_toArray, List.set_cons_zero, List.set_cons_succ]
  refine take_l (i := 17) (v := ?_) (by rfl) (by kernel_rfl) (by kernel_rfl) (by kernel_rfl) (by exact fun _ _ _ h => h) (Or.inl ⟨by rfl, ?_⟩) (by assumption) ?_
  rotate_left 1
  · (intro w' hSw; have k0 := hSw.e.c0; have k1 := hSw.e.c1; have k2 := hSw.e.c2; have k3 := hSw.e.c3; have kp := hSw.r.p n hn; have kg := hSw.r.g n hn; clear hSw; go_simp; try with_reducible rfl)
  try simp only [Act.put, List.setIfInBounds_toArray, List.set_cons_zero, List.set_cons_succ]
  refine wpAnyH_done (by kernel_rfl) ?_ _
  have k1 := hS4.e.c1
  have HS4 := Lib.hid hS4
  rename_i hx4
  clear hS4 hx4
  go_wp2_with (refine wpList_load_mid rfl 27 _ rfl b 0 rfl _ _ HS4.out.r.range Try.underlying27 rfl (size_27 v P G) ?_)
  refine (give_yes v n P G hn hyes _).mono ?_
  rintro e w5 ⟨rfl, hb5⟩
  unfold rosV
  have hS5 := HS4.out.below hb5
  have hst := run_store_ros hS5.z.there (v + 1) (updI P n (-1)) G
  have HS5 := Lib.hid hS5
  clear hS5 hb5 k1
  go_wp2_with fail
  refine bodyPost_ret (results_cell rfl _ _ (b + 1 + 1) rfl _ _ _ (rosAt_stored HS5.out.z.there _ _ _)) rfl ⟨rfl, ?_⟩
  rw [HB0.out]
  exact below_setCells _ (by omega) _ _ HS5.out.bel
end Go.Proofs.Ythjabcogbjdkiaa
