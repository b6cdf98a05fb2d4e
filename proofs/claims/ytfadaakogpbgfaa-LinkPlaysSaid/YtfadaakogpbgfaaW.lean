/-
  Link: the reference's Heard, from a block's cell 1 on; its Way, Told, Note, Last.
-/
import Derived.Test.YtfadaakogpbgfaaV
import Derived.RegionTactic
import Derived.Deep.RegionWith
import Derived.Deep.MidRow
namespace Go.Proofs.Ytfadaakogpbgfaa
set_option linter.unusedVariables false
open Go.ChangeShapes Go.WideShapes Go.ChangeAt Go.RowKit

def rway (a b : Int) : Int := if 32768 ≤ (b - a + 65536) % 65536 then (b - a + 65536) % 65536 - 65536 else (b - a + 65536) % 65536
theorem rway_eq (a b : Int) : rway a b = way a b := by rw [way_eq]; unfold rway; split <;> omega

theorem rway_any (a b : Int) (a0 : 0 ≤ a) (a1 : a ≤ 65535) (b0 : 0 ≤ b) (b1 : b ≤ 65535) (w : World) :
    Calls Try.prog 31 #[.int .u16 a, .int .u16 b] w fun e w' => e = .returned (.int .i64 (way a b)) ∧ w = w' := by
  rw [← rway_eq]
  unfold rway
  have h0 : 0 ≤ (b - a + 65536) % 65536 := by omega
  have h1 : (b - a + 65536) % 65536 ≤ 65535 := by omega
  by_cases h : 32768 ≤ (b - a + 65536) % 65536
  · rw [if_pos h]
    go_enter Try.func31, Try.ntmps31
    go_wp2
    go_ret
    exact ⟨ret_int (by omega), rfl⟩
  · rw [if_neg h]
    go_enter Try.func31, Try.ntmps31
    go_wp2
    go_ret
    exact ⟨ret_int (by omega), rfl⟩

def rtoldF (s a m : Int) : Bool :=
  -way a s == 0 || (decide (1 ≤ -way a s) && decide (-way a s ≤ 32) && (bits BinOp.and IntKind.u32 (m / 2 ^ ((-way a s).toNat - 1)) 1 == 1))
theorem rtoldF_eq (s a m : Int) : rtoldF s a m = toldF s a m := by
  by_cases h : way s a = -32768
  · have e : way a s = -32768 := by have := way_eq s a; have := way_eq a s; omega
    unfold rtoldF toldF
    rw [h, e]
    have k1 : decide (-(-32768 : Int) ≤ 32) = false := by decide
    have k2 : decide (1 ≤ (-32768 : Int)) = false := by decide
    have k3 : (-(-32768 : Int) == 0) = ((-32768 : Int) == 0) := by decide
    rw [k1, k2, k3, Bool.and_false, Bool.false_and, Bool.false_and, Bool.false_and]
  · have e : -way a s = way s a := by have := way_eq s a; have := way_eq a s; omega
    unfold rtoldF toldF
    rw [e]

theorem rtold_any (s a m : Int) (a0 : 0 ≤ a) (a1 : a ≤ 65535) (b0 : 0 ≤ s) (b1 : s ≤ 65535) (w : World) :
    Calls Try.prog 26 #[.int .u16 s, .int .u16 a, .int .u32 m] w fun e w' => e = .returned (.bool (toldF s a m)) ∧ w = w' := by
  rw [← rtoldF_eq]
  have h0 := way_lo a s
  have h1 := way_hi a s
  unfold rtoldF
  go_enter Try.func26, Try.ntmps26
  go_wp2_with (go_at_call 31; refine (rway_any _ _ a0 a1 b0 b1 _).mono ?_; rintro e w' ⟨rfl, rfl⟩)
  all_goals go_ret
  all_goals (refine ⟨ret_bool ?_, rfl⟩; simp_all; try omega)

def upd (c : Nat → Bool) (k : Nat) (v : Bool) : Nat → Bool := fun j => if j = k then v else c j
structure BoolsAt (w : World) (b o n : Nat) (c : Nat → Bool) : Prop where
  cell : ∀ k, k < n → w.cell? ⟨b, o + k, none⟩ = some (.bool (c k))
  frozen : ∀ k, k < n → w.frozen? ⟨b, o + k, none⟩ = false

theorem BoolsAt.only {w w' : World} {b o n b' : Nat} {c : Nat → Bool} (h : BoolsAt w b o n c) (k : Only b' w w') (hb : b ≠ b') : BoolsAt w' b o n c :=
  ⟨fun i hi => (k.cell (p := ⟨b, o + i, none⟩) hb).trans (h.cell i hi), fun i hi => (k.frozen (p := ⟨b, o + i, none⟩) hb).trans (h.frozen i hi)⟩
theorem BoolsAt.set {w : World} {b o n : Nat} {c : Nat → Bool} (h : BoolsAt w b o n c) (k : Nat) (hk : k < n) (v : Bool) : BoolsAt (w.setCell ⟨b, o + k, none⟩ (.bool v)) b o n (upd c k v) := by
  constructor
  · intro i hi
    by_cases e : i = k
    · subst e
      simp only [upd, if_pos]
      have := h.cell i hi
      go_simp
    · have := h.cell i hi
      rw [World.cell?_setCell_other _ _ _ _ (by first | (simp; done) | (simp; omega))]
      simp only [upd, if_neg e]
      exact this
  · intro i hi
    rw [World.frozen?_setCell]
    exact h.frozen i hi

theorem boolsAt_new (w : World) (xs : Array Value) (T : TypeId) (n : Nat) (h : ∀ k, k < n → xs[k]? = some (.bool false)) : BoolsAt (w.alloc (.cells xs T)) w.heap.size 0 n (fun _ => false) := by
  constructor
  · intro k hk
    rw [Nat.zero_add, World.cell?_alloc_new]; exact h k hk
  · intro k hk
    rw [World.frozen?_alloc_new]
theorem step_load_mid {P : Program} {ops : Array Oper} {op : Oper} {a : Act} {w : World} {K : Act → World → Prop} {Q : Exit → Act → World → Prop} {E : Prop} (hg : op.guard = none) (ty : TypeId) (x : Operand) (ho : op.op = .load ty x)
    (b o : Nat) (hx : a.eval x = .pointer (some ⟨b, o, none⟩)) (cs : List Value) (d : TypeDesc) (hc : w.rangeAt b o cs)
    (hu : P.underlying ty = some d) (hd : d.isRow = true) (hi : (P.info? ty).map (·.size) = some cs.length)
    (h : K (a.put op.dst (.agg cs.toArray)) w) : if Region.wanted op (yielded ops a.tmps) = true then Oper.wp P op a w K Q else E := by
  have hw : Region.wanted op (yielded ops a.tmps) = true := by simp [Region.wanted, hg]
  rw [if_pos hw]
  exact wp_load_mid ty x ho b o hx cs d hc hu hd hi h

theorem step_store_mid {P : Program} {ops : Array Oper} {op : Oper} {a : Act} {w : World} {K : Act → World → Prop} {Q : Exit → Act → World → Prop} {E : Prop} (hg : op.guard = none) (ty : TypeId) (x y : Operand) (ho : op.op = .store ty x y)
    (b o : Nat) (cells : Array Value) (hx : a.eval x = .pointer (some ⟨b, o, none⟩)) (hy : a.eval y = .agg cells)
    (ht : w.there b o cells.size) (hi : (P.info? ty).map (·.size) = some cells.size) (h1 : cells.all (·.oneCell') = true)
    (h : K (a.put op.dst undef) (w.setCells b o cells.toList)) : if Region.wanted op (yielded ops a.tmps) = true then Oper.wp P op a w K Q else E := by
  have hw : Region.wanted op (yielded ops a.tmps) = true := by simp [Region.wanted, hg]
  rw [if_pos hw]
  exact wp_store_mid ty x y ho b o cells hx hy ht hi h1 h

theorem BoolsAt.range {w : World} {b o n : Nat} {c : Nat → Bool} (h : BoolsAt w b o n c) : w.rangeAt b o ((List.range n).map fun k => Value.bool (c k)) := by
  intro j v hv
  rw [List.getElem?_map] at hv
  by_cases hj : j < n
  · rw [List.getElem?_range hj] at hv
    rw [h.cell j hj]; exact hv
  · rw [List.getElem?_eq_none (by simp; omega)] at hv; cases hv
theorem BoolsAt.there {w : World} {b o n : Nat} {c : Nat → Bool} (h : BoolsAt w b o n c) : w.there b o n :=
  fun j hj => ⟨by rw [h.cell j hj]; rfl, h.frozen j hj⟩
theorem boolsAt_stored (w : World) (b o n : Nat) (c : Nat → Bool) (h : w.there b o n) : BoolsAt (w.setCells b o ((List.range n).map fun k => Value.bool (c k))) b o n c := by
  constructor
  · intro k hk
    exact World.rangeAt_setCells_same w b o _ (by simpa using h) k _ (by rw [List.getElem?_map, List.getElem?_range hk]; rfl)
  · intro k hk
    rw [World.frozen?_setCells]; exact (h k hk).2

theorem Only.setCells {b : Nat} {a : World} : ∀ (vs : List Value) (o : Nat) {w : World}, Only b a w → Only b a (w.setCells b o vs)
  | [], _, _, h => h
  | v :: r, o, w, h => by
    rw [World.setCells]
    exact Only.setCells r (o + 1) (h.setCell rfl v)

/-- The reference's Heard in memory: Any, Top, Came. -/
structure RefAt (w : World) (b : Nat) (is : Bool) (l : Int) (c : Nat → Bool) : Prop where
  c0 : w.cell? ⟨b, 1, none⟩ = some (.bool is)
  c1 : w.cell? ⟨b, 2, none⟩ = some (.int .u16 l)
  f0 : w.frozen? ⟨b, 1, none⟩ = false
  f1 : w.frozen? ⟨b, 2, none⟩ = false
  came : BoolsAt w b 3 33 c


/-- Of the blocks that were, only b may have changed. -/
structure Keep (b : Nat) (w w' : World) : Prop where
  os : w'.os = w.os
  tape : w'.tape = w.tape
  output : w'.output = w.output
  size : w.heap.size ≤ w'.heap.size
  block : ∀ k, k < w.heap.size → k ≠ b → w'.heap[k]? = w.heap[k]?
theorem Keep.refl (b : Nat) (w : World) : Keep b w w := ⟨rfl, rfl, rfl, Nat.le_refl _, fun _ _ _ => rfl⟩
theorem Keep.trans {b : Nat} {x y z : World} (h : Keep b x y) (k : Keep b y z) : Keep b x z :=
  ⟨k.os.trans h.os, k.tape.trans h.tape, k.output.trans h.output, Nat.le_trans h.size k.size, fun i hi hb => (k.block i (Nat.lt_of_lt_of_le hi h.size) hb).trans (h.block i hi hb)⟩
theorem Only.keep {b : Nat} {x y : World} (h : Only b x y) : Keep b x y := ⟨h.os, h.tape, h.output, by rw [h.size]; omega, fun k _ hk => h.block k hk⟩
theorem Keep.alloc {b : Nat} {x y : World} (h : Keep b x y) (o : Obj) : Keep b x (y.alloc o) :=
  h.trans ⟨rfl, rfl, rfl, by simp, fun k hk _ => Below.heap_alloc _ _ _ hk⟩
theorem Keep.cell {b : Nat} {w w' : World} (h : Keep b w w') {p : Addr} (hb : p.block ≠ b) (hp : p.block < w.heap.size) : w'.cell? p = w.cell? p := World.cell?_of_block (w := w) (h.block p.block hp hb)
theorem Keep.frozen {b : Nat} {w w' : World} (h : Keep b w w') {p : Addr} (hb : p.block ≠ b) (hp : p.block < w.heap.size) : w'.frozen? p = w.frozen? p := World.frozen?_of_block (w := w) (h.block p.block hp hb)
theorem Keep.below {b B : Nat} {w w' : World} (h : Keep b w w') (hb : B ≤ b) (hs : B ≤ w.heap.size) : Below B w w' :=
  ⟨h.os, h.tape, h.output, h.size, fun k hk => h.block k (by omega) (by omega)⟩
/-- A store into a new block. -/
theorem Keep.only_new {b C : Nat} {x y z : World} (h : Keep b x y) (k : Only C y z) (hC : x.heap.size ≤ C) : Keep b x z :=
  ⟨k.os.trans h.os, k.tape.trans h.tape, k.output.trans h.output, by rw [k.size]; exact h.size, fun i hi hb => (k.block i (by omega)).trans (h.block i hi hb)⟩

/-- Only b may have changed, and there only the Heard. -/
structure OnlyH (b : Nat) (w w' : World) : Prop where
  only : Only b w w'
  rest : ∀ o, (o = 0 ∨ 36 ≤ o) → w'.cell? ⟨b, o, none⟩ = w.cell? ⟨b, o, none⟩ ∧ w'.frozen? ⟨b, o, none⟩ = w.frozen? ⟨b, o, none⟩
theorem OnlyH.refl (b : Nat) (w : World) : OnlyH b w w := ⟨Only.refl _ _, fun _ _ => ⟨rfl, rfl⟩⟩
theorem OnlyH.setCell {b : Nat} {a w : World} (h : OnlyH b a w) (k : Nat) (h1 : 1 ≤ k) (h2 : k ≤ 35) (v : Value) : OnlyH b a (w.setCell ⟨b, k, none⟩ v) :=
  ⟨h.only.setCell rfl v, fun o ho => ⟨by rw [World.cell?_setCell_other _ _ _ _ (by simp only [ne_eq, Addr.mk.injEq, true_and, and_true]; omega)]; exact (h.rest o ho).1, by rw [World.frozen?_setCell]; exact (h.rest o ho).2⟩⟩
theorem OnlyH.drew {b : Nat} {a w : World} (h : OnlyH b a w) : OnlyH b a w.drew := ⟨h.only.drew, fun o ho => h.rest o ho⟩
theorem OnlyH.setCells {b : Nat} {a : World} : ∀ (vs : List Value) (k : Nat) {w : World}, 1 ≤ k → k + vs.length ≤ 36 → OnlyH b a w → OnlyH b a (w.setCells b k vs)
  | [], _, _, _, _, h => h
  | v :: r, k, w, h1, h2, h => by
    rw [World.setCells]
    simp only [List.length_cons] at h2
    exact OnlyH.setCells r (k + 1) (by omega) (by omega) (h.setCell k h1 (by omega) v)
/-- Of the blocks that were, only b may have changed, and there only the Heard. -/
structure KeepH (b : Nat) (w w' : World) : Prop where
  keep : Keep b w w'
  rest : ∀ o, (o = 0 ∨ 36 ≤ o) → w'.cell? ⟨b, o, none⟩ = w.cell? ⟨b, o, none⟩ ∧ w'.frozen? ⟨b, o, none⟩ = w.frozen? ⟨b, o, none⟩
theorem KeepH.refl (b : Nat) (w : World) : KeepH b w w := ⟨Keep.refl _ _, fun _ _ => ⟨rfl, rfl⟩⟩
theorem KeepH.trans {b : Nat} {x y z : World} (h : KeepH b x y) (k : KeepH b y z) : KeepH b x z :=
  ⟨h.keep.trans k.keep, fun o ho => ⟨(k.rest o ho).1.trans (h.rest o ho).1, (k.rest o ho).2.trans (h.rest o ho).2⟩⟩
theorem OnlyH.keepH {b : Nat} {x y : World} (h : OnlyH b x y) : KeepH b x y := ⟨h.only.keep, h.rest⟩
theorem KeepH.alloc_refl {b : Nat} {x : World} (hb : b < x.heap.size) (o : Obj) : KeepH b x (x.alloc o) :=
  ⟨(Keep.refl _ _).alloc o, fun k _ => ⟨World.cell?_of_block (Below.heap_alloc _ _ _ hb), World.frozen?_of_block (Below.heap_alloc _ _ _ hb)⟩⟩
theorem KeepH.only_new {b C : Nat} {x y z : World} (h : KeepH b x y) (k : Only C y z) (hC : x.heap.size ≤ C) (hne : b ≠ C) : KeepH b x z :=
  ⟨h.keep.only_new k hC, fun o ho => ⟨(k.cell (p := ⟨b, o, none⟩) hne).trans (h.rest o ho).1, (k.frozen (p := ⟨b, o, none⟩) hne).trans (h.rest o ho).2⟩⟩

theorem BoolsAt.congr {w : World} {b o n : Nat} {c c' : Nat → Bool} (h : BoolsAt w b o n c) (e : ∀ k, k < n → c k = c' k) : BoolsAt w b o n c' :=
  ⟨fun k hk => by rw [h.cell k hk, e k hk], h.frozen⟩
theorem BoolsAt.setOther {w : World} {b o n : Nat} {c : Nat → Bool} (h : BoolsAt w b o n c) {a : Addr} (v : Value) (ha : a.block ≠ b ∨ a.off < o) : BoolsAt (w.setCell a v) b o n c := by
  constructor
  · intro i hi
    rw [World.cell?_setCell_other _ _ _ _ (by intro e; subst e; rcases ha with ha | ha <;> simp at ha; omega)]
    exact h.cell i hi
  · intro i hi
    rw [World.frozen?_setCell]; exact h.frozen i hi

theorem RefAt.setCame {w : World} {b : Nat} {is : Bool} {l : Int} {c : Nat → Bool} (h : RefAt w b is l c) (k : Nat) (hk : k < 33) (v : Bool) : RefAt (w.setCell ⟨b, 3 + k, none⟩ (.bool v)) b is l (upd c k v) := by
  obtain ⟨c0, c1, f0, f1, hc⟩ := h
  refine ⟨?_, ?_, ?_, ?_, hc.set k hk v⟩
  · rw [World.cell?_setCell_other _ _ _ _ (by simp)]; exact c0
  · rw [World.cell?_setCell_other _ _ _ _ (by first | (simp; done) | (simp; omega))]; exact c1
  · rw [World.frozen?_setCell]; exact f0
  · rw [World.frozen?_setCell]; exact f1

theorem RefAt.drew {w : World} {b : Nat} {is : Bool} {l : Int} {c : Nat → Bool} (h : RefAt w b is l c) : RefAt w.drew b is l c := ⟨h.c0, h.c1, h.f0, h.f1, ⟨h.came.cell, h.came.frozen⟩⟩

theorem rnote_1 (b : Nat) (l s : Int) (c : Nat → Bool) (w : World) (h : RefAt w b false l c) :
    Calls Try.prog 27 #[.pointer (some ⟨b, 1, none⟩), .int .u16 s] w fun e w' => e = .returned (.bool true) ∧ RefAt w' b true s (upd c 0 true) ∧ OnlyH b w w' := by
  have hR : RefAt (((w.setCell ⟨b, 1, none⟩ (.bool true)).setCell ⟨b, 2, none⟩ (.int .u16 s)).setCell ⟨b, 3, none⟩ (.bool true)).drew b true s (upd c 0 true) := by
    refine RefAt.drew (RefAt.setCame (k := 0) ?_ (by omega) true)
    obtain ⟨c0, c1, f0, f1, hc⟩ := h
    refine ⟨?_, ?_, ?_, ?_, (hc.setOther _ (Or.inr (by simp))).setOther _ (Or.inr (by simp))⟩ <;> go_simp
  obtain ⟨c0, c1, f0, f1, hc⟩ := h
  have g0 := hc.cell 0 (by omega)
  have g1 := hc.frozen 0 (by omega)
  have HC := Lib.hid hc
  have HR := Lib.hid hR
  clear hc hR
  go_enter Try.func27, Try.ntmps27
  go_wp2
  go_region
  all_goals (go_wp2; go_ret)
  exact ⟨rfl, HR.out, ((((OnlyH.refl _ _).setCell 1 (by decide) (by decide) _).setCell 2 (by decide) (by decide) _).setCell 3 (by decide) (by decide) _).drew⟩
theorem rnote_3 (b : Nat) (l s : Int) (c : Nat → Bool) (w : World) (h : RefAt w b true l c) (l0 : 0 ≤ l) (l1 : l ≤ 65535) (s0 : 0 ≤ s) (s1 : s ≤ 65535) (hw : way l s < -32) :
    Calls Try.prog 27 #[.pointer (some ⟨b, 1, none⟩), .int .u16 s] w fun e w' => e = .returned (.bool false) ∧ w = w' := by
  obtain ⟨c0, c1, f0, f1, hc⟩ := h
  go_enter Try.func27, Try.ntmps27
  go_wp2_with (go_at_call 31; refine (rway_any _ _ l0 l1 s0 s1 _).mono ?_; rintro e w' ⟨rfl, rfl⟩)
  go_ret
  exact ⟨rfl, rfl⟩
theorem rnote_4 (b : Nat) (l s : Int) (c : Nat → Bool) (w : World) (h : RefAt w b true l c) (l0 : 0 ≤ l) (l1 : l ≤ 65535) (s0 : 0 ≤ s) (s1 : s ≤ 65535) (hw : way l s ≤ 0) (hw2 : -32 ≤ way l s) (hcc : c (-way l s).toNat = true) :
    Calls Try.prog 27 #[.pointer (some ⟨b, 1, none⟩), .int .u16 s] w fun e w' => e = .returned (.bool false) ∧ w = w' := by
  obtain ⟨c0, c1, f0, f1, hc⟩ := h
  have g0 := hc.cell (-way l s).toNat (by omega)
  rw [hcc] at g0
  have HC := Lib.hid hc
  clear hc
  go_enter Try.func27, Try.ntmps27
  go_wp2_with (go_at_call 31; refine (rway_any _ _ l0 l1 s0 s1 _).mono ?_; rintro e w' ⟨rfl, rfl⟩)
  go_ret
  exact ⟨rfl, rfl⟩
theorem rnote_5 (b : Nat) (l s : Int) (c : Nat → Bool) (w : World) (h : RefAt w b true l c) (l0 : 0 ≤ l) (l1 : l ≤ 65535) (s0 : 0 ≤ s) (s1 : s ≤ 65535) (hw : way l s ≤ 0) (hw2 : -32 ≤ way l s) (hcc : c (-way l s).toNat = false) :
    Calls Try.prog 27 #[.pointer (some ⟨b, 1, none⟩), .int .u16 s] w fun e w' => e = .returned (.bool true) ∧ RefAt w' b true l (upd c (-way l s).toNat true) ∧ OnlyH b w w' := by
  have HR := Lib.hid (h.setCame (-way l s).toNat (by omega) true)
  obtain ⟨c0, c1, f0, f1, hc⟩ := h
  have g0 := hc.cell (-way l s).toNat (by omega)
  have g1 := hc.frozen (-way l s).toNat (by omega)
  rw [hcc] at g0
  clear hc
  go_enter Try.func27, Try.ntmps27
  go_wp2_with (go_at_call 31; refine (rway_any _ _ l0 l1 s0 s1 _).mono ?_; rintro e w' ⟨rfl, rfl⟩)
  go_ret
  exact ⟨rfl, HR.out, (OnlyH.refl _ _).setCell (3 + (-way l s).toNat) (by omega) (by omega) _⟩

theorem falses_33 : ∀ k, k < 33 → (#[Value.bool false, Value.bool false, Value.bool false, Value.bool false, Value.bool false, Value.bool false,
      Value.bool false, Value.bool false, Value.bool false, Value.bool false, Value.bool false, Value.bool false,
      Value.bool false, Value.bool false, Value.bool false, Value.bool false, Value.bool false, Value.bool false,
      Value.bool false, Value.bool false, Value.bool false, Value.bool false, Value.bool false, Value.bool false,
      Value.bool false, Value.bool false, Value.bool false, Value.bool false, Value.bool false, Value.bool false,
      Value.bool false, Value.bool false, Value.bool false])[k]? = some (Value.bool false) := by
  intro k hk
  show (List.replicate 33 (Value.bool false)).toArray[k]? = _
  rw [List.getElem?_toArray, List.getElem?_replicate, if_pos hk]

def shiftTo (c : Nat → Bool) (d i : Nat) : Nat → Bool := fun j => if j < i then decide (d ≤ j) && c (j - d) else false

set_option maxHeartbeats 3000000 in
theorem rnote_2 (b : Nat) (l s : Int) (c : Nat → Bool) (w : World) (h : RefAt w b true l c) (hb : b < w.heap.size) (l0 : 0 ≤ l) (l1 : l ≤ 65535) (s0 : 0 ≤ s) (s1 : s ≤ 65535) (hw : 0 < way l s) :
    Calls Try.prog 27 #[.pointer (some ⟨b, 1, none⟩), .int .u16 s] w fun e w' => e = .returned (.bool true) ∧ RefAt w' b true s (upd (shiftTo c (way l s).toNat 33) 0 true) ∧ KeepH b w w' := by
  obtain ⟨c0, c1, f0, f1, hc⟩ := h
  have hd := way_hi l s
  obtain ⟨d, hdd⟩ : ∃ d : Nat, (d : Int) = way l s := ⟨(way l s).toNat, by omega⟩
  have hdt : (way l s).toNat = d := by omega
  rw [hdt]
  clear hdt
  have HD := Lib.hid hdd
  have HC := Lib.hid hc
  clear hc hdd
  generalize hC0 : w.heap.size = C
  have hCs := Lib.hid hC0
  go_enter Try.func27, Try.ntmps27
  go_wp2_with (go_at_call 31; refine (rway_any _ _ l0 l1 s0 s1 _).mono ?_; rintro e w' ⟨rfl, rfl⟩)
  rw [← HD.out]
  rw [← HD.out] at hw hd
  generalize hw0 : w.alloc _ = w0
  have hal : BoolsAt w0 w.heap.size 0 33 (fun _ => false) := by rw [← hw0]; exact boolsAt_new w _ 35 33 falses_33
  have hkp : KeepH b w w0 := by rw [← hw0]; exact KeepH.alloc_refl hb _
  have hke : w0.heap[b]? = w.heap[b]? := by rw [← hw0]; exact Below.heap_alloc _ _ _ hb
  clear hw0
  rw [hC0] at hal
  have hbC : b ≠ C := by omega
  have hCb : C ≠ b := by omega
  clear hC0
  replace c0 : w0.cell? ⟨b, 1, none⟩ = some (.bool true) := (World.cell?_of_block hke).trans c0
  replace c1 : w0.cell? ⟨b, 2, none⟩ = some (.int .u16 l) := (World.cell?_of_block hke).trans c1
  replace f0 : w0.frozen? ⟨b, 1, none⟩ = false := (World.frozen?_of_block hke).trans f0
  replace f1 : w0.frozen? ⟨b, 2, none⟩ = false := (World.frozen?_of_block hke).trans f1
  have hc0 : BoolsAt w0 b 3 33 c := ⟨fun k hk => (World.cell?_of_block hke).trans (HC.out.cell k hk), fun k hk => (World.frozen?_of_block hke).trans (HC.out.frozen k hk)⟩
  have HC0 := Lib.hid hc0
  have HF := Lib.hid (And.intro c0 (And.intro c1 (And.intro f0 f1)))
  clear hke hc0 c0 c1 f0 f1 hb
  have hd1 : d ≤ 32767 := by omega
  have hd0 : 0 < d := by omega
  clear hw hd
  go_loopw [7] (fun i wr => ∃ n : Nat, n ≤ 33 ∧ i = .int .i64 n ∧ BoolsAt wr C 0 33 (shiftTo c d n) ∧ Only C w0 wr) (fun i _ => 33 - (intOf i).toNat)
  case atStart => exact ⟨0, by omega, rfl, hal.congr (fun k hk => by simp [shiftTo]), Only.refl _ _⟩
  case round =>
    obtain ⟨n, hn1, rfl, hbo, hon⟩ := hrel
    clear hal
    by_cases hlt : n < 33
    · have HBO := Lib.hid hbo
      have fk := hbo.frozen n hlt
      rw [Nat.zero_add] at fk
      have hset := fun v => hbo.set n hlt v
      rw [Nat.zero_add] at hset
      have HSet := Lib.hid hset
      obtain ⟨vn, ck2⟩ : ∃ vn, wr.cell? ⟨C, n, none⟩ = some (.bool vn) := ⟨_, by simpa using hbo.cell n hlt⟩
      clear hset hbo
      by_cases hdn : d ≤ n
      · have hD : decide ((n : Int) - d < 33) = true := by simp; omega
        have ck := HC0.out.cell (n - d) (by omega)
        have ck' : wr.cell? ⟨b, 3 + (n - d), none⟩ = some (.bool (c (n - d))) := (hon.cell (p := ⟨b, 3 + (n - d), none⟩) hbC).trans ck
        have htn : ((n : Int) - d).toNat = n - d := by omega
        have hr : BoolsAt (wr.setCell ⟨C, n, none⟩ (.bool (c (n - d)))) C 0 33 (shiftTo c d (n + 1)) := (HSet.out (c (n - d))).congr (fun k hk => by
          unfold upd shiftTo
          by_cases e : k = n
          · subst e; simp [hdn]
          · by_cases e2 : k < n
            · have : k < n + 1 := by omega
              simp [e, e2, this]
            · have : ¬ k < n + 1 := by omega
              simp [e, e2, this])
        have ho : Only C w0 (wr.setCell ⟨C, n, none⟩ (.bool (c (n - d)))) := hon.setCell rfl _
        have HR := Lib.hid hr
        have HO := Lib.hid ho
        clear ck hr ho
        go_wp2
        all_goals first | exact ⟨⟨n + 1, by omega, by go_num, HR.out, HO.out⟩, by simp [intOf]; omega⟩ | exact ⟨n + 1, by omega, by go_num, HR.out, HO.out⟩ | (simp [intOf]; omega) | go_roundw
      · have hD : decide ((d : Int) ≤ n) = false := by simp; omega
        have hr : BoolsAt wr C 0 33 (shiftTo c d (n + 1)) := HBO.out.congr (fun k hk => by
          unfold shiftTo
          by_cases e : k = n
          · subst e; simp [hdn]
          · by_cases e2 : k < n
            · have : k < n + 1 := by omega
              simp [e2, this]
            · have : ¬ k < n + 1 := by omega
              simp [e2, this])
        have HR := Lib.hid hr
        clear hr
        go_wp2
        all_goals first | exact ⟨⟨n + 1, by omega, by go_num, HR.out, hon⟩, by simp [intOf]; omega⟩ | exact ⟨n + 1, by omega, by go_num, HR.out, hon⟩ | (simp [intOf]; omega) | go_roundw
    · obtain rfl : n = 33 := by omega
      have fk := hbo.frozen 0 (by omega)
      have ck := hbo.cell 0 (by omega)
      have hset := hbo.set 0 (by omega) true
      rw [Nat.zero_add] at fk ck hset
      obtain ⟨g0, g1, g2, g3⟩ := HF.out
      have hc1 : BoolsAt (wr.setCell ⟨C, 0, none⟩ (.bool true)) b 3 33 c := (HC0.out.only hon hbC).setOther _ (Or.inl hCb)
      replace g0 : (wr.setCell ⟨C, 0, none⟩ (.bool true)).cell? ⟨b, 1, none⟩ = some (.bool true) := ((hon.setCell rfl _).cell (p := ⟨b, 1, none⟩) hbC).trans g0
      replace g1 : (wr.setCell ⟨C, 0, none⟩ (.bool true)).cell? ⟨b, 2, none⟩ = some (.int .u16 l) := ((hon.setCell rfl _).cell (p := ⟨b, 2, none⟩) hbC).trans g1
      replace g2 : (wr.setCell ⟨C, 0, none⟩ (.bool true)).frozen? ⟨b, 1, none⟩ = false := ((hon.setCell rfl _).frozen (p := ⟨b, 1, none⟩) hbC).trans g2
      replace g3 : (wr.setCell ⟨C, 0, none⟩ (.bool true)).frozen? ⟨b, 2, none⟩ = false := ((hon.setCell rfl _).frozen (p := ⟨b, 2, none⟩) hbC).trans g3
      have hK : KeepH b w (wr.setCell ⟨C, 0, none⟩ (.bool true)) := hkp.only_new (hon.setCell rfl _) (Nat.le_of_eq hCs.out) hbC
      have HG := Lib.hid (And.intro g0 (And.intro g1 (And.intro g2 (And.intro g3 (And.intro hc1 (And.intro hset hK))))))
      clear hbo hon hset g0 g1 g2 g3 hc1 hK hkp
      go_wp2
      generalize wr.setCell ⟨C, 0, none⟩ (.bool true) = w1 at HG ⊢
      obtain ⟨g0, g1, g2, g3, hc1, hb1, hK⟩ := HG.out
      clear ck fk HG HF HC0
      obtain ⟨c2, hc2⟩ : ∃ c2, c2 = upd (shiftTo c d 33) 0 true := ⟨_, rfl⟩
      rw [← hc2] at hb1
      have HC2 := Lib.hid hc2
      clear hc2
      have hrg := hb1.range
      have hth := hc1.there
      have HC1 := Lib.hid hc1
      have HK := Lib.hid hK
      have HRG := Lib.hid hrg
      have HTH := Lib.hid hth
      clear hb1 hc1 hK hrg hth
      refine wp_region_any (by kernel_rfl) ?_
      change wpAny _ _ _ _ _ _ _ (World.drew _)
      refine wpAny_take (i := 0) (v := ?_) rfl (by kernel_rfl) (by kernel_rfl) (by kernel_rfl) (fun _ _ _ h => h) (Or.inl ⟨by rfl, ?_⟩) ?_
      rotate_left 1
      · intro w; go_simp; try with_reducible rfl
      refine wpAny_take (i := 1) (v := ?_) rfl (by kernel_rfl) (by kernel_rfl) (by kernel_rfl) (fun _ _ _ h => h) (Or.inl ⟨by rfl, ?_⟩) ?_
      rotate_left 1
      · intro w; go_simp; try with_reducible rfl
      refine wpAny_take (i := 2) (v := ?_) rfl (by kernel_rfl) (by kernel_rfl) (by kernel_rfl) (fun _ _ _ h => h) (Or.inl ⟨by rfl, ?_⟩) ?_
      rotate_left 1
      · intro w; go_simp; try with_reducible rfl
      refine wpAny_take (i := 4) (v := ?_) rfl (by kernel_rfl) (by kernel_rfl) (by kernel_rfl) (fun _ _ _ h => h) (Or.inl ⟨by rfl, ?_⟩) ?_
      rotate_left 1
      · intro w; go_simp; try with_reducible rfl
      refine wpAny_take (i := 5) (v := ?_) rfl (by kernel_rfl) (by kernel_rfl) (by kernel_rfl) (fun _ _ _ h => h) (Or.inl ⟨by rfl, ?_⟩) ?_
      rotate_left 1
      · intro w; go_simp; try with_reducible rfl
      obtain ⟨row, hrow⟩ : ∃ row, row = ((List.range 33).map fun k => Value.bool (c2 k)) := ⟨_, rfl⟩
      have hrl : row.length = 33 := by rw [hrow]; simp
      have hone : row.toArray.all (·.oneCell') = true := all_oneCell_toArray (by rw [hrow]; intro v hv; rw [List.mem_map] at hv; obtain ⟨k, _, rfl⟩ := hv; rfl)
      have hrg1 : w1.drew.rangeAt C 0 row := by rw [hrow, World.rangeAt_drew]; exact HRG.out
      have hth1 : (w1.setCell ⟨b, 2, none⟩ (.int .u16 s)).drew.there b 3 33 := fun j hj => by
        show ((w1.drew.setCell ⟨b, 2, none⟩ (.int .u16 s)).cell? _).isSome = true ∧ (w1.drew.setCell ⟨b, 2, none⟩ (.int .u16 s)).frozen? _ = false
        obtain ⟨h1, h2⟩ := HTH.out j hj
        rw [World.cell?_setCell_other _ _ _ _ (by first | (simp; done) | (simp; omega)), World.frozen?_setCell]; exact ⟨h1, h2⟩
      have hrg2 : (w1.setCell ⟨b, 2, none⟩ (.int .u16 s)).drew.rangeAt C 0 row := fun j v hv => by
        show (w1.drew.setCell ⟨b, 2, none⟩ (.int .u16 s)).cell? _ = _
        rw [World.cell?_setCell_other _ _ _ _ (by simp)]; exact hrg1 j v hv
      have hfin : RefAt ((w1.setCell ⟨b, 2, none⟩ (.int .u16 s)).drew.setCells b 3 row) b true s (upd (shiftTo c d 33) 0 true) ∧ KeepH b w ((w1.setCell ⟨b, 2, none⟩ (.int .u16 s)).drew.setCells b 3 row) := by
        rw [← HC2.out]
        show RefAt ((w1.drew.setCell ⟨b, 2, none⟩ (.int .u16 s)).setCells b 3 row) b true s c2 ∧ KeepH b w ((w1.drew.setCell ⟨b, 2, none⟩ (.int .u16 s)).setCells b 3 row)
        refine ⟨⟨?_, ?_, ?_, ?_, ?_⟩, HK.out.trans (OnlyH.setCells _ _ (by decide) (by rw [hrl]; decide) (((OnlyH.refl b w1).drew).setCell 2 (by decide) (by decide) _)).keepH⟩
        · rw [World.cell?_setCells_out b row 3 _ _ (fun _ _ => Or.inl (by simp)), World.cell?_setCell_other _ _ _ _ (by simp)]; exact g0
        · rw [World.cell?_setCells_out b row 3 _ _ (fun _ _ => Or.inl (by simp))]; exact World.cell?_setCell_same _ _ _ (show w1.drew.cell? ⟨b, 2, none⟩ = _ from g1)
        · rw [World.frozen?_setCells, World.frozen?_setCell]; exact g2
        · rw [World.frozen?_setCells, World.frozen?_setCell]; exact g3
        · rw [hrow]; exact boolsAt_stored _ b 3 33 c2 hth1
      have HRl := Lib.hid hrl
      have HONE := Lib.hid hone
      have HR1 := Lib.hid hrg1
      have HR2 := Lib.hid hrg2
      have HT2 := Lib.hid hth1
      have HFin := Lib.hid hfin
      clear hrow hrl hone hrg1 hrg2 hth1 hfin HRG HTH HC1 HK
      refine wpAny_ready (rs := [3, 6]) (by kernel_rfl) (by simp) ?_
      refine AllReady.cons rfl (fun K hK => ?_) ?_
      · refine step_load_mid rfl 35 _ rfl C 0 (by go_simp) row (.array 33 4) HR1.out Try.underlying35 rfl (by rw [HRl.out]; kernel_rfl) ?_
        refine hK _ _ ?_
        clear hK K
        refine wpAny_ready (rs := [6]) (by kernel_rfl) (by simp) ?_
        refine AllReady.cons rfl (fun K hK => ?_) ?_
        rotate_left 1
        · exact AllReady.nil
        go_simp
        refine hK _ _ ?_
        clear hK K
        refine wpAny_take (i := 7) (v := ?_) rfl (by kernel_rfl) (by kernel_rfl) (by kernel_rfl) (fun _ _ _ h => h) (Or.inl ⟨by rfl, ?_⟩) ?_
        rotate_left 1
        · intro w; go_simp; try with_reducible rfl
        refine wpAny_take (i := 8) (v := ?_) rfl (by kernel_rfl) (by kernel_rfl) (by kernel_rfl) (fun _ _ _ h => h) (Or.inl ⟨by rfl, ?_⟩) ?_
        rotate_left 1
        · intro w; go_simp; try with_reducible rfl
        refine wpAny_ready (rs := [9]) (by kernel_rfl) (by simp) ?_
        refine AllReady.cons rfl (fun K hK => ?_) ?_
        rotate_left 1
        · exact AllReady.nil
        refine step_store_mid rfl 35 _ _ rfl b 3 row.toArray (by go_simp) (by go_simp) (by rw [List.size_toArray, HRl.out]; exact HT2.out) (by rw [List.size_toArray, HRl.out]; kernel_rfl) HONE.out ?_
        refine hK _ _ ?_
        clear hK K
        refine wpAny_done (by kernel_rfl) ?_ _
        go_wp2
        go_ret
        exact ⟨rfl, HFin.out⟩
      refine AllReady.cons rfl (fun K hK => ?_) ?_
      rotate_left 1
      · exact AllReady.nil
      go_simp
      refine hK _ _ ?_
      clear hK K
      refine wpAny_ready (rs := [3]) (by kernel_rfl) (by simp) ?_
      refine AllReady.cons rfl (fun K hK => ?_) ?_
      rotate_left 1
      · exact AllReady.nil
      refine step_load_mid rfl 35 _ rfl C 0 (by go_simp) row (.array 33 4) HR2.out Try.underlying35 rfl (by rw [HRl.out]; kernel_rfl) ?_
      refine hK _ _ ?_
      clear hK K
      refine wpAny_take (i := 7) (v := ?_) rfl (by kernel_rfl) (by kernel_rfl) (by kernel_rfl) (fun _ _ _ h => h) (Or.inl ⟨by rfl, ?_⟩) ?_
      rotate_left 1
      · intro w; go_simp; try with_reducible rfl
      refine wpAny_take (i := 8) (v := ?_) rfl (by kernel_rfl) (by kernel_rfl) (by kernel_rfl) (fun _ _ _ h => h) (Or.inl ⟨by rfl, ?_⟩) ?_
      rotate_left 1
      · intro w; go_simp; try with_reducible rfl
      refine wpAny_ready (rs := [9]) (by kernel_rfl) (by simp) ?_
      refine AllReady.cons rfl (fun K hK => ?_) ?_
      rotate_left 1
      · exact AllReady.nil
      refine step_store_mid rfl 35 _ _ rfl b 3 row.toArray (by go_simp) (by go_simp) (by rw [List.size_toArray, HRl.out]; exact HT2.out) (by rw [List.size_toArray, HRl.out]; kernel_rfl) HONE.out ?_
      refine hK _ _ ?_
      clear hK K
      refine wpAny_done (by kernel_rfl) ?_ _
      go_wp2
      go_ret
      exact ⟨rfl, HFin.out⟩

theorem rlast_any (b : Nat) (is : Bool) (l : Int) (c : Nat → Bool) (w : World) (h : RefAt w b is l c) :
    Calls Try.prog 20 #[.pointer (some ⟨b, 1, none⟩)] w fun e w' => (∃ m : Nat, e = .returned (.tuple #[.int .u16 l, .int .u32 m]) ∧ m < 2 ^ 32 ∧ ∀ j, m.testBit j = (decide (j < 32) && c (j + 1))) ∧ w = w' := by
  obtain ⟨c0, c1, f0, f1, hc⟩ := h
  have HC := Lib.hid hc
  clear hc
  go_enter Try.func20, Try.ntmps20
  go_wp2
  go_loop [4, 5] (fun v i => ∃ n : Nat, ∃ m : Nat, 1 ≤ n ∧ n ≤ 33 ∧ i = .int .i64 n ∧ v = .int .u32 m ∧ m < 2 ^ 32 ∧ Hid (∀ j, m.testBit j = (decide (j + 1 < n) && c (j + 1)))) (fun _ i => 33 - (intOf i).toNat)
  case atStart => exact ⟨1, 0, by omega, by omega, rfl, rfl, by decide, fun j => by simp⟩
  case round =>
    obtain ⟨n, m, hn0, hn1, rfl, rfl, hm, HB⟩ := hrel
    by_cases hlt : n < 33
    · have ck := HC.out.cell n hlt
      have HM := Lib.hid hm
      clear hm
      cases hcn : c n with
      | true =>
        rw [hcn] at ck
        have e1 : bits BinOp.or IntKind.u32 (m : Int) (2 ^ (n - 1) % 4294967296) = ((m ||| 2 ^ (n - 1) : Nat) : Int) := by
          have hb := bitN_cast (n := n) (by omega) (by omega)
          have hb2 := bitN_lt (n := n) (by omega) (by omega)
          unfold bitN at hb hb2
          rw [Int.toNat_natCast] at hb hb2
          rw [hb, (u32_bits _ _ HM.out hb2).2]
        have e2 : m ||| 2 ^ (n - 1) < 2 ^ 32 := Nat.or_lt_two_pow HM.out (Nat.pow_lt_pow_right (by omega) (by omega))
        have e3 : ∀ j, (m ||| 2 ^ (n - 1)).testBit j = (decide (j + 1 < n + 1) && c (j + 1)) := by
          intro j
          rw [Nat.testBit_or, HB.out, Nat.testBit_two_pow]
          by_cases hj : n - 1 = j
          · have : j + 1 = n := by omega
            rw [this, hcn]; simp [hj]
          · have h2 : decide (n - 1 = j) = false := by simp [hj]
            rw [h2, Bool.or_false]
            have h3 : decide (j + 1 < n + 1) = decide (j + 1 < n) := by
              rw [decide_eq_decide]; omega
            rw [h3]
        have E1 := Lib.hid e1
        have E2 := Lib.hid e2
        have E3 := Lib.hid e3
        clear e1 e2 e3 hcn
        go_wp2
        all_goals first | exact ⟨⟨n + 1, m ||| 2 ^ (n - 1), by omega, by omega, by go_num, by rw [E1.out], E2.out, E3.out⟩, by simp [intOf]; omega⟩ | exact ⟨n + 1, m ||| 2 ^ (n - 1), by omega, by omega, by go_num, by rw [E1.out], E2.out, E3.out⟩ | (simp [intOf]; omega) | go_roundw
      | false =>
        rw [hcn] at ck
        have e3 : ∀ j, m.testBit j = (decide (j + 1 < n + 1) && c (j + 1)) := by
          intro j
          rw [HB.out]
          by_cases hj : n - 1 = j
          · have : j + 1 = n := by omega
            rw [this, hcn]; simp
          · have h3 : decide (j + 1 < n + 1) = decide (j + 1 < n) := by
              rw [decide_eq_decide]; omega
            rw [h3]
        have E3 := Lib.hid e3
        clear e3 hcn
        go_wp2
        all_goals first | exact ⟨⟨n + 1, m, by omega, by omega, by go_num, rfl, HM.out, E3.out⟩, by simp [intOf]; omega⟩ | exact ⟨n + 1, m, by omega, by omega, by go_num, rfl, HM.out, E3.out⟩ | (simp [intOf]; omega) | go_roundw
    · obtain rfl : n = 33 := by omega
      have hfin : (∃ m' : Nat, Ending.returned (.tuple #[.int .u16 l, .int .u32 (m : Int)]) = .returned (.tuple #[.int .u16 l, .int .u32 (m' : Int)]) ∧ m' < 2 ^ 32 ∧ ∀ j, m'.testBit j = (decide (j < 32) && c (j + 1))) :=
        ⟨m, rfl, hm, fun j => by rw [HB.out]; congr 1; rw [decide_eq_decide]; omega⟩
      have HF := Lib.hid hfin
      clear hfin hm HB
      go_wp2
      go_ret2
      exact ⟨HF.out, rfl⟩

/-- The program's Heard and the reference's tell the same. -/
def SameHeard (is : Bool) (l : Int) (m : Nat) (c : Nat → Bool) : Prop :=
  (0 ≤ l ∧ l ≤ 65535) ∧ m < 2 ^ 32 ∧ (∀ j, j < 32 → m.testBit j = c (j + 1)) ∧ (c 0 = is) ∧ (is = false → m = 0)

def refC (is : Bool) (l s : Int) (c : Nat → Bool) : Nat → Bool :=
  if is = false then upd c 0 true else if 0 < way l s then upd (shiftTo c (way l s).toNat 33) 0 true
  else if way l s < -32 then c else upd c (-way l s).toNat true

theorem high_bits {m : Nat} (h : m < 2 ^ 32) (j : Nat) (hj : 32 ≤ j) : m.testBit j = false :=
  Nat.testBit_lt_two_pow (Nat.lt_of_lt_of_le h (Nat.pow_le_pow_right (by decide) hj))

theorem same_step (is : Bool) (l s : Int) (m : Nat) (c : Nat → Bool) (h : SameHeard is l m c) (s0 : 0 ≤ s) (s1 : s ≤ 65535) :
    SameHeard true (noteL is l s) (noteM is l s m) (refC is l s c) ∧
    (is = true → way l s ≤ 0 → -32 ≤ way l s → c (-way l s).toNat = !(noteB is l s m)) := by
  obtain ⟨⟨l0, l1⟩, hm, hc, h0, hi⟩ := h
  have hlt := noteM_lt is l s m hm
  have hd := way_hi l s
  have hd' := way_lo l s
  cases is with
  | false =>
    refine ⟨⟨by simp [noteL, s0, s1], hlt, ?_, by simp [refC, upd], by simp⟩, by simp⟩
    intro j hj
    have : m = 0 := hi rfl
    subst this
    have := hc j hj
    simp at this
    simp [noteM, refC, upd, ← this]
  | true =>
    by_cases c1 : 0 < way l s
    · have hL : noteL true l s = s := by simp [noteL, c1]
      refine ⟨⟨by rw [hL]; exact ⟨s0, s1⟩, hlt, ?_, by simp [refC, upd, c1], by simp⟩, by intros; omega⟩
      intro j hj
      have hR : refC true l s c (j + 1) = (decide ((way l s).toNat ≤ j + 1) && c (j + 1 - (way l s).toNat)) := by
        simp only [refC, if_pos c1]
        rw [if_neg (by simp)]
        unfold upd shiftTo
        rw [if_neg (by omega), if_pos (by omega)]
      rw [hR]
      by_cases c2 : 32 < way l s
      · have e1 : decide ((way l s).toNat ≤ j + 1) = false := by simp; omega
        rw [e1]
        simp [noteM, c2]
      · have hM : noteM true l s m = (m * 2 ^ (way l s).toNat) % 2 ^ 32 ||| bitN (way l s) := by
          unfold noteM; rw [if_neg (by simp), if_neg c2, if_pos c1]
        rw [hM, Nat.testBit_or, Nat.testBit_mod_two_pow, Nat.testBit_mul_two_pow, bitN, Nat.testBit_two_pow]
        generalize hdd : (way l s).toNat = d
        have hd1 : 1 ≤ d := by omega
        by_cases e1 : d - 1 = j
        · have e2 : j + 1 - d = 0 := by omega
          have e3 : d ≤ j + 1 := by omega
          rw [e2, h0]; simp [e1, e3]
        · by_cases e2 : d ≤ j
          · have e3 : j + 1 - d = (j - d) + 1 := by omega
            have e4 : d ≤ j + 1 := by omega
            rw [e3, ← hc (j - d) (by omega)]
            simp [e1, e2, e4, hj]
          · have e4 : ¬ d ≤ j + 1 := by omega
            have e5 : ¬ j + 1 = d := by omega
            simp [e1, e2, e4]
    · have hL : noteL true l s = l := by simp [noteL, c1]
      have n0 : ¬ 32 < way l s := by omega
      by_cases c2 : way l s < -32
      · have n2 : ¬ way l s = 0 := by omega
        have hM : noteM true l s m = m := by
          unfold noteM; rw [if_neg (by simp), if_neg n0, if_neg c1, if_neg n2, if_pos c2]
        have hR : refC true l s c = c := by simp [refC, c1, c2]
        rw [hL, hM, hR]
        exact ⟨⟨⟨l0, l1⟩, hm, hc, h0, by simp⟩, by intros; omega⟩
      · have hR : refC true l s c = upd c (-way l s).toNat true := by simp [refC, c1, c2]
        rw [hL, hR]
        by_cases c3 : way l s = 0
        · have hM : noteM true l s m = m := by
            unfold noteM; rw [if_neg (by simp), if_neg n0, if_neg c1, if_pos c3]
          rw [hM, c3]
          refine ⟨⟨⟨l0, l1⟩, hm, fun j hj => by simp [upd, hc j hj], by simp [upd], by simp⟩, fun _ _ _ => ?_⟩
          have hB : noteB true l s m = false := by simp [noteB, c3]
          rw [hB]; simpa using h0
        · have hM : noteM true l s m = m ||| bitN (-way l s) := by
            unfold noteM; rw [if_neg (by simp), if_neg n0, if_neg c1, if_neg c3, if_neg c2]
          have hB : noteB true l s m = !(m.testBit ((-way l s).toNat - 1)) := by
            unfold noteB; rw [if_neg (by simp), if_neg c1, if_neg c3, if_neg c2]
          rw [hM, hB, bitN]
          generalize hdd : (-way l s).toNat = d
          have hd1 : 1 ≤ d := by omega
          have hd2 : d ≤ 32 := by omega
          refine ⟨⟨⟨l0, l1⟩, ?_, ?_, ?_, by simp⟩, fun _ _ _ => ?_⟩
          · exact Nat.or_lt_two_pow hm (Nat.pow_lt_pow_right (by omega) (by omega))
          · intro j hj
            rw [Nat.testBit_or, Nat.testBit_two_pow, hc j hj]
            unfold upd
            by_cases e1 : d - 1 = j
            · have : j + 1 = d := by omega
              simp [e1, this]
            · have : ¬ j + 1 = d := by omega
              simp [e1, this]
          · unfold upd; rw [if_neg (by omega)]; exact h0
          · rw [hc (d - 1) (by omega), Bool.not_not]; congr 1; omega

/-- The reference's Note, at what the program's Heard tells. -/
theorem rnote_any (b : Nat) (is : Bool) (l s : Int) (m : Nat) (c : Nat → Bool) (w : World) (h : RefAt w b is l c) (hb : b < w.heap.size) (hs : SameHeard is l m c) (s0 : 0 ≤ s) (s1 : s ≤ 65535) :
    Calls Try.prog 27 #[.pointer (some ⟨b, 1, none⟩), .int .u16 s] w fun e w' => e = .returned (.bool (noteB is l s m)) ∧ RefAt w' b true (noteL is l s) (refC is l s c) ∧ KeepH b w w' := by
  have hst := (same_step is l s m c hs s0 s1).2
  obtain ⟨⟨l0, l1⟩, hm, hc, h0, hi⟩ := hs
  cases is with
  | false =>
    refine (rnote_1 b l s c w h).mono fun e w' ⟨h1, h2, h3⟩ => ⟨by simpa [noteB] using h1, by simpa [noteL, refC] using h2, h3.keepH⟩
  | true =>
    by_cases c1 : 0 < way l s
    · exact (rnote_2 b l s c w h hb l0 l1 s0 s1 c1).mono fun e w' ⟨h1, h2, h3⟩ => ⟨by simpa [noteB, c1] using h1, by simpa [noteL, refC, c1] using h2, h3⟩
    · by_cases c2 : way l s < -32
      · have n2 : ¬ way l s = 0 := by omega
        have hB : noteB true l s m = false := by
          unfold noteB; rw [if_neg (by simp), if_neg c1, if_neg n2, if_pos c2]
        refine (rnote_3 b l s c w h l0 l1 s0 s1 c2).mono fun e w' ⟨h1, h2⟩ => ?_
        subst h2
        refine ⟨by rw [hB]; exact h1, by simpa [noteL, refC, c1, c2] using h, KeepH.refl _ _⟩
      · have hcc := hst rfl (by omega) (by omega)
        cases hB : noteB true l s m with
        | false =>
          rw [hB] at hcc
          refine (rnote_4 b l s c w h l0 l1 s0 s1 (by omega) (by omega) hcc).mono fun e w' ⟨h1, h2⟩ => ?_
          subst h2
          have e1 : upd c (-way l s).toNat true = c := by
            funext j; unfold upd; split
            · rename_i e; rw [e, hcc]; rfl
            · rfl
          refine ⟨h1, by simpa [noteL, refC, c1, c2, e1] using h, KeepH.refl _ _⟩
        | true =>
          rw [hB] at hcc
          exact (rnote_5 b l s c w h l0 l1 s0 s1 (by omega) (by omega) hcc).mono fun e w' ⟨h1, h2, h3⟩ => ⟨h1, by simpa [noteL, refC, c1, c2] using h2, h3.keepH⟩


end Go.Proofs.Ytfadaakogpbgfaa
