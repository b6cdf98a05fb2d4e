/-
  Entry: Get's state, its doors.
-/
import Derived.Test.YtembppihfcclcaaI
namespace Go.Proofs.Ytembppihfcclcaa
set_option linter.unusedVariables false
open Go.ChangeShapes Go.WideShapes Go.ChangeAt Go.RowKit

def evL (E : Nat → Nat → Int) : Nat → List Value
  | 0 => []
  | n + 1 => evL E n ++ [.int .i64 (E n 0), .int .i64 (E n 1), .int .i64 (E n 2), .int .i64 (E n 3)]
theorem evL_len (E : Nat → Nat → Int) : ∀ n, (evL E n).length = n * 4
  | 0 => rfl
  | n + 1 => by unfold evL; rw [List.length_append, evL_len E n]; show _ + 4 = _; omega
theorem evL_get (E : Nat → Nat → Int) (j : Nat) (hj : j < 4) : ∀ n i, i < n → (evL E n)[i * 4 + j]? = some (.int .i64 (E i j))
  | 0, i, h => by omega
  | n + 1, i, h => by
    unfold evL
    by_cases e : i = n
    · subst e
      rw [List.getElem?_append_right (by rw [evL_len]; omega), evL_len, show i * 4 + j - i * 4 = j by omega]
      rcases (by omega : j = 0 ∨ j = 1 ∨ j = 2 ∨ j = 3) with rfl | rfl | rfl | rfl <;> rfl
    · rw [List.getElem?_append_left (by rw [evL_len]; omega)]
      exact evL_get E j hj n i (by omega)
theorem evL_congr {E E' : Nat → Nat → Int} : ∀ n, (∀ i, i < n → ∀ j, j < 4 → E i j = E' i j) → evL E n = evL E' n
  | 0, _ => rfl
  | n + 1, h => by
    unfold evL
    rw [evL_congr n (fun i hi => h i (by omega)), h n (by omega) 0 (by omega), h n (by omega) 1 (by omega), h n (by omega) 2 (by omega), h n (by omega) 3 (by omega)]
/-- A row of events of the call's own, in a block from number B on. -/
def OwnE (w : World) (B : Nat) (sv : Value) (m : Nat) (E : Nat → Nat → Int) : Prop := w.ownsRow B 43 4 sv m (evL E m)
theorem OwnE.other {w w' : World} {B R m : Nat} {sv : Value} {E : Nat → Nat → Int} (h : OwnE w B sv m E) (ho : Only R w w') (hR : R < B) : OwnE w' B sv m E := by
  refine World.ownsRow.kept (row := some R) h ⟨ho.os, ho.tape, ho.output, Nat.le_of_eq ho.size.symm, fun k _ hk => ho.block k (fun e => hk (by rw [e]))⟩ ?_
  cases hv : sv.ownBlock with
  | none => exact Or.inl rfl
  | some g => exact Or.inr (fun e => by have := (World.ownsRow.lt h g hv).1; injection e with e; omega)
theorem OwnE.below {w w' : World} {B B' m : Nat} {sv : Value} {E : Nat → Nat → Int} (h : OwnE w B sv m E) (hb : Below B' w w') (hs : w.heap.size ≤ B') : OwnE w' B sv m E := by
  refine World.ownsRow.kept (row := none) h ⟨hb.os, hb.tape, hb.output, hb.size, fun k hk _ => hb.block k (by omega)⟩ ?_
  cases hv : sv.ownBlock <;> simp
theorem OwnE.evs {w : World} {B m : Nat} {sv : Value} {E : Nat → Nat → Int} (h : OwnE w B sv m E) : EvsV w sv m E := by
  have h' := h
  rcases h.2 with ⟨rfl, rfl⟩ | ⟨g, cap, cur, rfl, hb, hg, h1, h2, -⟩
  · exact ⟨none, 0, rfl, Nat.le_refl _, Nat.zero_le _, fun h => absurd h (by omega)⟩
  · refine ⟨_, cap, rfl, h1, h2, fun _ => ⟨g, 0, rfl, (Array.getElem?_eq_some_iff.1 hg).1, ?_⟩⟩
    have hc : ∀ i j, i < m → j < 4 → w.cell? ⟨g, 0 + (i * 4 + j), none⟩ = some (.int .i64 (E i j)) := fun i j hi hj => by
      have := World.ownsRow.cells h' (g := g) rfl (i * 4 + j) _ (evL_get E j hj m i hi)
      rwa [Go.WideShapes.add_plain] at this
    exact ⟨fun i hi => hc i 0 hi (by omega), fun i hi => hc i 1 hi (by omega), fun i hi => hc i 2 hi (by omega), fun i hi => hc i 3 hi (by omega)⟩
/-- Where Get stands: the reader at place i, the entry read so far, m events. -/
structure GS (w : World) (bs : List Int) (b o C i : Nat) (fr : Int) (sv : Value) (m : Nat) (E : Nat → Nat → Int) (I : Nat → Int) (wr : World) : Prop where
  rd : RdAt wr (w.heap.size + 1 + 1) b o bs.length C i
  ent : EntAt wr w.heap.size 0 fr sv I
  th : wr.there w.heap.size 0 26
  c3 : wr.cell? ⟨w.heap.size + 1, 0, none⟩ = some (.int .i64 0)
  f3 : wr.frozen? ⟨w.heap.size + 1, 0, none⟩ = false
  own : OwnE wr (w.heap.size + 3) sv m E
  bel : Below w.heap.size w wr
theorem GS.only {w wr w' : World} {bs : List Int} {b o C i j m : Nat} {fr : Int} {sv : Value} {E : Nat → Nat → Int} {I : Nat → Int} (h : GS w bs b o C i fr sv m E I wr) (ho : Only (w.heap.size + 1 + 1) wr w') (hr : RdAt w' (w.heap.size + 1 + 1) b o bs.length C j) : GS w bs b o C j fr sv m E I w' :=
  ⟨hr, h.ent.block (ho.block _ (by omega)), there_block h.th (ho.block _ (by omega)), (World.cell?_of_block (ho.block (w.heap.size + 1) (by omega))).trans h.c3, (World.frozen?_of_block (ho.block (w.heap.size + 1) (by omega))).trans h.f3, h.own.other ho (by omega), h.bel.trans (ho.below (by omega))⟩
theorem GS.below {w wr w' : World} {bs : List Int} {b o C i B m : Nat} {fr : Int} {sv : Value} {E : Nat → Nat → Int} {I : Nat → Int} (h : GS w bs b o C i fr sv m E I wr) (hb : Below B wr w') (hB : wr.heap.size ≤ B) : GS w bs b o C i fr sv m E I w' := by
  have hlt := h.rd.lt
  exact ⟨h.rd.block (hb.block _ (by omega)), h.ent.block (hb.block _ (by omega)), there_block h.th (hb.block _ (by omega)), (World.cell?_of_block (hb.block (w.heap.size + 1) (by omega))).trans h.c3, (World.frozen?_of_block (hb.block (w.heap.size + 1) (by omega))).trans h.f3, h.own.below hb hB, h.bel.trans (hb.mono (by omega))⟩
theorem GS.drew {w wr : World} {bs : List Int} {b o C i m : Nat} {fr : Int} {sv : Value} {E : Nat → Nat → Int} {I : Nat → Int} (h : GS w bs b o C i fr sv m E I wr) : GS w bs b o C i fr sv m E I wr.drew := h.below ((Below.refl wr.heap.size wr).drew) (Nat.le_refl _)
theorem get_byte {w wr : World} {bs : List Int} {b o C i m : Nat} (j : Nat) (hj : i + 1 = j) {fr : Int} {sv : Value} {E : Nat → Nat → Int} {I : Nat → Int} (hby : ByteL bs) (hbs : 0 < bs.length → b < w.heap.size ∧ BytesAt w b o bs) (h : GS w bs b o C i fr sv m E I wr) :
    Calls Try.prog 69 #[.pointer (some ⟨w.heap.size + 1 + 1, 0, none⟩)] wr fun e w' => (i < bs.length ∧ e = .returned (.int .i64 (zz bs i)) ∧ GS w bs b o C j fr sv m E I w') ∨ (bs.length ≤ i ∧ e = .panicked wrongP ∧ GS w bs b o C i fr sv m E I w') := by
  subst hj
  by_cases hi : i < bs.length
  · obtain ⟨h1, h2⟩ := hbs (by omega)
    refine (byte_any _ b o _ C i bs wr rfl hby h.rd hi (h2.block (h.bel.block b h1)) (by omega)).mono ?_
    rintro e w' ⟨rfl, hr, ho⟩
    exact Or.inl ⟨hi, rfl, h.only ho hr⟩
  · have hle := h.rd.le
    obtain rfl : i = bs.length := by omega
    refine (byte_end _ b o _ C wr h.rd).mono ?_
    rintro e w' ⟨rfl, rfl⟩
    exact Or.inr ⟨Nat.le_refl _, rfl, h⟩
theorem results_get (tmps : Array Value) (w : World) (t2 t3 : Nat) (h2 : tmps.getD 2 undef = .pointer (some ⟨t2, 0, none⟩)) (h3 : tmps.getD 3 undef = .pointer (some ⟨t3, 0, none⟩)) (fr : Int) (sv : Value) (I : Nat → Int) (x : Int) (he : EntAt w t2 0 fr sv I) (hc : w.cell? ⟨t3, 0, none⟩ = some (.int .i64 x)) :
    (results Try.f67 tmps).run Try.prog w = .ok (.tuple #[.agg (entL fr sv I).toArray, .int .i64 x]) w := by
  have hl := run_loadVar_mid (P := Try.prog) w t2 0 37 (entL fr sv I) _ he.range Try.underlying37 rfl (size_ent fr sv I)
  have h2' : tmps[2]?.getD undef = .pointer (some ⟨t2, 0, none⟩) := by simpa using h2
  have h3' : tmps[3]?.getD undef = .pointer (some ⟨t3, 0, none⟩) := by simpa using h3
  have hl3 : (loadVar 3 ⟨t3, 0, none⟩).run Try.prog w = .ok (.int .i64 x) w := by simp [go_sem, hc]
  simp [results, Try.results67, h2', h3', asAddr, hl, hl3]
theorem get_bad {w wr : World} {bs : List Int} {b o C i m : Nat} {fr : Int} {sv : Value} {E : Nat → Nat → Int} {I : Nat → Int} (h : GS w bs b o C i fr sv m E I wr) (tmps : Array Value) (h2 : tmps.getD 2 undef = .pointer (some ⟨w.heap.size, 0, none⟩)) (h3 : tmps.getD 3 undef = .pointer (some ⟨w.heap.size + 1, 0, none⟩)) (R : Ending → World → Prop)
    (hR : ∀ w', Below w.heap.size w w' → R (.returned (.tuple #[.agg (entL 0 (.slice none 0 0) (fun _ => 0)).toArray, .int .i64 2])) w') :
    bodyPostD Try.prog Try.f67 R (.panic wrongP) { tmps := tmps, defers := [{ target := .fn (.func 68) #[.pointer (some ⟨w.heap.size, 0, none⟩), .pointer (some ⟨w.heap.size + 1, 0, none⟩)], args := #[] }] } wr := by
  show Leaves Try.prog Try.f67 tmps R _ (.panicking wrongP) wr
  refine leaves_cons (f := 68) (args := #[.pointer (some ⟨w.heap.size, 0, none⟩), .pointer (some ⟨w.heap.size + 1, 0, none⟩)]) (by simp) (by simp [go_sem]) ?_
  refine (catch_get w.heap.size (w.heap.size + 1) w.heap.size wr h.th 0 h.c3 h.f3 (by omega) (Nat.le_refl _) (by omega)).mono ?_
  rintro e u' w'' ⟨rfl, rfl, he, hc, hb⟩
  exact ⟨_, results_get tmps w'' _ _ h2 h3 _ _ _ _ he hc, hR _ (h.bel.trans hb)⟩
theorem get_good {w wr : World} {bs : List Int} {b o C i m : Nat} {fr : Int} {sv : Value} {E : Nat → Nat → Int} {I : Nat → Int} (h : GS w bs b o C i fr sv m E I wr) (tmps : Array Value) (h2 : tmps.getD 2 undef = .pointer (some ⟨w.heap.size, 0, none⟩)) (h3 : tmps.getD 3 undef = .pointer (some ⟨w.heap.size + 1, 0, none⟩)) (R : Ending → World → Prop)
    (hR : ∀ w', Below wr.heap.size wr w' → R (.returned (.tuple #[.agg (entL fr sv I).toArray, .int .i64 0])) w') :
    bodyPostD Try.prog Try.f67 R .ret { tmps := tmps, defers := [{ target := .fn (.func 68) #[.pointer (some ⟨w.heap.size, 0, none⟩), .pointer (some ⟨w.heap.size + 1, 0, none⟩)], args := #[] }] } wr := by
  show Leaves Try.prog Try.f67 tmps R _ .returning wr
  refine leaves_cons (f := 68) (args := #[.pointer (some ⟨w.heap.size, 0, none⟩), .pointer (some ⟨w.heap.size + 1, 0, none⟩)]) (by simp) (by simp [go_sem]) ?_
  refine (idle_get _ _ wr).mono ?_
  rintro e u' w'' ⟨rfl, rfl, hb⟩
  have hlt := h.rd.lt
  exact ⟨_, results_get tmps w'' _ _ h2 h3 _ _ _ _ (h.ent.block (hb.block _ (by omega))) ((World.cell?_of_block (hb.block (w.heap.size + 1) (by omega))).trans h.c3), hR _ hb⟩
def GW (w : World) (v : Value) : World := ((w.alloc (Obj.cells #[.int .i64 0, .slice none 0 0, .int .i8 0, .int .i8 0, .int .u8 0, .int .i8 0, .int .i8 0, .int .u8 0, .int .i8 0, .int .i8 0, .int .u8 0, .int .i8 0, .int .i8 0, .int .u8 0, .int .i8 0, .int .i8 0, .int .u8 0, .int .i8 0, .int .i8 0, .int .u8 0, .int .i8 0, .int .i8 0, .int .u8 0, .int .i8 0, .int .i8 0, .int .u8 0] 37)).alloc (Obj.cells #[.int .i64 0] 3)).alloc (Obj.cells #[v] 107)
theorem gs_start (w : World) (bs : List Int) (a : Option Addr) (b o C : Nat) (ha : 0 < bs.length → a = some ⟨b, o, none⟩) (hc : bs.length ≤ C) (hm : C ≤ maxLen) (E : Nat → Nat → Int) : GS w bs b o C 0 0 (.slice none 0 0) 0 E (fun _ => 0) (GW w (.slice a bs.length C)) := by
  unfold GW
  have e1 : EntAt (w.alloc (Obj.cells #[.int .i64 0, .slice none 0 0, .int .i8 0, .int .i8 0, .int .u8 0, .int .i8 0, .int .i8 0, .int .u8 0, .int .i8 0, .int .i8 0, .int .u8 0, .int .i8 0, .int .i8 0, .int .u8 0, .int .i8 0, .int .i8 0, .int .u8 0, .int .i8 0, .int .i8 0, .int .u8 0, .int .i8 0, .int .i8 0, .int .u8 0, .int .i8 0, .int .i8 0, .int .u8 0] 37)) w.heap.size 0 0 (.slice none 0 0) (fun _ => 0) := entAt_new 0 (.slice none 0 0) (fun _ => 0) 37 w
  have t1 : (w.alloc (Obj.cells #[.int .i64 0, .slice none 0 0, .int .i8 0, .int .i8 0, .int .u8 0, .int .i8 0, .int .i8 0, .int .u8 0, .int .i8 0, .int .i8 0, .int .u8 0, .int .i8 0, .int .i8 0, .int .u8 0, .int .i8 0, .int .i8 0, .int .u8 0, .int .i8 0, .int .i8 0, .int .u8 0, .int .i8 0, .int .i8 0, .int .u8 0, .int .i8 0, .int .i8 0, .int .u8 0] 37)).there w.heap.size 0 26 := fun j hj => by
    rw [e1.cell j hj, Nat.zero_add, World.frozen?_alloc_new]
    exact ⟨rfl, rfl⟩
  have s1 : (w.alloc (Obj.cells #[.int .i64 0, .slice none 0 0, .int .i8 0, .int .i8 0, .int .u8 0, .int .i8 0, .int .i8 0, .int .u8 0, .int .i8 0, .int .i8 0, .int .u8 0, .int .i8 0, .int .i8 0, .int .u8 0, .int .i8 0, .int .i8 0, .int .u8 0, .int .i8 0, .int .i8 0, .int .u8 0, .int .i8 0, .int .i8 0, .int .u8 0, .int .i8 0, .int .i8 0, .int .u8 0] 37)).heap.size = w.heap.size + 1 := by simp
  have b1 := (Below.refl w.heap.size w).alloc (Nat.le_refl _) (Obj.cells #[.int .i64 0, .slice none 0 0, .int .i8 0, .int .i8 0, .int .u8 0, .int .i8 0, .int .i8 0, .int .u8 0, .int .i8 0, .int .i8 0, .int .u8 0, .int .i8 0, .int .i8 0, .int .u8 0, .int .i8 0, .int .i8 0, .int .u8 0, .int .i8 0, .int .i8 0, .int .u8 0, .int .i8 0, .int .i8 0, .int .u8 0, .int .i8 0, .int .i8 0, .int .u8 0] 37)
  generalize w.alloc (Obj.cells #[.int .i64 0, .slice none 0 0, .int .i8 0, .int .i8 0, .int .u8 0, .int .i8 0, .int .i8 0, .int .u8 0, .int .i8 0, .int .i8 0, .int .u8 0, .int .i8 0, .int .i8 0, .int .u8 0, .int .i8 0, .int .i8 0, .int .u8 0, .int .i8 0, .int .i8 0, .int .u8 0, .int .i8 0, .int .i8 0, .int .u8 0, .int .i8 0, .int .i8 0, .int .u8 0] 37) = w1 at *
  have b2 := b1.alloc b1.size (Obj.cells #[.int .i64 0] 3)
  have k2 := Below.heap_alloc w1 (Obj.cells #[.int .i64 0] 3) w.heap.size (by omega)
  have c2 : (w1.alloc (Obj.cells #[.int .i64 0] 3)).cell? ⟨w.heap.size + 1, 0, none⟩ = some (.int .i64 0) := by rw [← s1, World.cell?_alloc_new]; rfl
  have f2 : (w1.alloc (Obj.cells #[.int .i64 0] 3)).frozen? ⟨w.heap.size + 1, 0, none⟩ = false := by rw [← s1, World.frozen?_alloc_new]
  have s2 : (w1.alloc (Obj.cells #[.int .i64 0] 3)).heap.size = w.heap.size + 1 + 1 := by simp; omega
  have e2 := e1.block k2
  have t2 := there_block t1 k2
  generalize w1.alloc (Obj.cells #[.int .i64 0] 3) = w2 at *
  have k3 := fun k (hk : k < w2.heap.size) => Below.heap_alloc w2 (Obj.cells #[.slice a bs.length C] 107) k hk
  refine ⟨⟨⟨a, ?_, fun h => by rw [ha h]; rfl⟩, ?_, Nat.zero_le _, hc, hm⟩, e2.block (k3 _ (by omega)), there_block t2 (k3 _ (by omega)), (World.cell?_of_block (k3 (w.heap.size + 1) (by omega))).trans c2, (World.frozen?_of_block (k3 (w.heap.size + 1) (by omega))).trans f2, World.ownsRow_nil _ _ _ _, b2.alloc b2.size _⟩
  · rw [← s2, World.cell?_alloc_new]; rfl
  · rw [← s2, World.frozen?_alloc_new]
end Go.Proofs.Ytembppihfcclcaa
