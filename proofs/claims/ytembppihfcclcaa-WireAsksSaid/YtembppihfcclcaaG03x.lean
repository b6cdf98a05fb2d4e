/-
  Entry: Get's state, its doors. Entry: Get's state behind stores; what the bytes say, in plain words.
-/
import Derived.Test.YtembppihfcclcaaG02x
namespace Go.Proofs.Ytembppihfcclcaa
set_option linter.unusedVariables false
open Go.ChangeShapes Go.WideShapes Go.ChangeAt Go.RowKit

def evL (E : Nat → Nat → Int) : Nat → List Value
  | 0 => []
  | n + 1 => evL E n ++ [.int .i64 (E n 0), .int .i64 (E n 1), .int .i64 (E n 2), .int .i64 (E n 3)]
theorem evL_len (E : Nat → Nat → Int) : ∀ n, (evL E n).length = n * 4
  | 0 => rfl
  | n + 1 => by unfold evL; rw [List.length_append, evL_len E n]; show _ + 4 = _; omega
theorem evL_get (E : Nat → Nat → Int) (j : Nat) (hj : j < 4) : ∀ n i, i < n → (evL E n)[i * 4 + j]? = some (.int .i64 (E i j))
  | 0, i, h => by omega
  | n + 1, i, h => by
    unfold evL
    by_cases e : i = n
    · subst e
      rw [List.getElem?_append_right (by rw [evL_len]; omega), evL_len, show i * 4 + j - i * 4 = j by omega]
      rcases (by omega : j = 0 ∨ j = 1 ∨ j = 2 ∨ j = 3) with rfl | rfl | rfl | rfl <;> rfl
    · rw [List.getElem?_append_left (by rw [evL_len]; omega)]
      exact evL_get E j hj n i (by omega)
theorem evL_congr {E E' : Nat → Nat → Int} : ∀ n, (∀ i, i < n → ∀ j, j < 4 → E i j = E' i j) → evL E n = evL E' n
  | 0, _ => rfl
  | n + 1, h => by
    unfold evL
    rw [evL_congr n (fun i hi => h i (by omega)), h n (by omega) 0 (by omega), h n (by omega) 1 (by omega), h n (by omega) 2 (by omega), h n (by omega) 3 (by omega)]
/-- A row of events of the call's own, in a block from number B on. -/
def OwnE (w : World) (B : Nat) (sv : Value) (m : Nat) (E : Nat → Nat → Int) : Prop := w.ownsRow B 43 4 sv m (evL E m)
theorem OwnE.other {w w' : World} {B R m : Nat} {sv : Value} {E : Nat → Nat → Int} (h : OwnE w B sv m E) (ho : Only R w w') (hR : R < B) : OwnE w' B sv m E := by
  refine World.ownsRow.kept (row := some R) h ⟨ho.os, ho.tape, ho.output, Nat.le_of_eq ho.size.symm, fun k _ hk => ho.block k (fun e => hk (by rw [e]))⟩ ?_
  cases hv : sv.ownBlock with
  | none => exact Or.inl rfl
  | some g => exact Or.inr (fun e => by have := (World.ownsRow.lt h g hv).1; injection e with e; omega)
theorem OwnE.below {w w' : World} {B B' m : Nat} {sv : Value} {E : Nat → Nat → Int} (h : OwnE w B sv m E) (hb : Below B' w w') (hs : w.heap.size ≤ B') : OwnE w' B sv m E := by
  refine World.ownsRow.kept (row := none) h ⟨hb.os, hb.tape, hb.output, hb.size, fun k hk _ => hb.block k (by omega)⟩ ?_
  cases hv : sv.ownBlock <;> simp
theorem OwnE.evs {w : World} {B m : Nat} {sv : Value} {E : Nat → Nat → Int} (h : OwnE w B sv m E) : EvsV w sv m E := by
  have h' := h
  rcases h.2 with ⟨rfl, rfl⟩ | ⟨g, cap, cur, rfl, hb, hg, h1, h2, -⟩
  · exact ⟨none, 0, rfl, Nat.le_refl _, Nat.zero_le _, fun h => absurd h (by omega)⟩
  · refine ⟨_, cap, rfl, h1, h2, fun _ => ⟨g, 0, rfl, (Array.getElem?_eq_some_iff.1 hg).1, ?_⟩⟩
    have hc : ∀ i j, i < m → j < 4 → w.cell? ⟨g, 0 + (i * 4 + j), none⟩ = some (.int .i64 (E i j)) := fun i j hi hj => by
      have := World.ownsRow.cells h' (g := g) rfl (i * 4 + j) _ (evL_get E j hj m i hi)
      rwa [Go.WideShapes.add_plain] at this
    exact ⟨fun i hi => hc i 0 hi (by omega), fun i hi => hc i 1 hi (by omega), fun i hi => hc i 2 hi (by omega), fun i hi => hc i 3 hi (by omega)⟩
/-- Where Get stands: the reader at place i, the entry read so far, m events. -/
structure GS (w : World) (bs : List Int) (b o C i : Nat) (fr : Int) (sv : Value) (m : Nat) (E : Nat → Nat → Int) (I : Nat → Int) (wr : World) : Prop where
  rd : RdAt wr (w.heap.size + 1 + 1) b o bs.length C i
  ent : EntAt wr w.heap.size 0 fr sv I
  th : wr.there w.heap.size 0 26
  c3 : wr.cell? ⟨w.heap.size + 1, 0, none⟩ = some (.int .i64 0)
  f3 : wr.frozen? ⟨w.heap.size + 1, 0, none⟩ = false
  own : OwnE wr (w.heap.size + 3) sv m E
  bel : Below w.heap.size w wr
theorem GS.only {w wr w' : World} {bs : List Int} {b o C i j m : Nat} {fr : Int} {sv : Value} {E : Nat → Nat → Int} {I : Nat → Int} (h : GS w bs b o C i fr sv m E I wr) (ho : Only (w.heap.size + 1 + 1) wr w') (hr : RdAt w' (w.heap.size + 1 + 1) b o bs.length C j) : GS w bs b o C j fr sv m E I w' :=
  ⟨hr, h.ent.block (ho.block _ (by omega)), there_block h.th (ho.block _ (by omega)), (World.cell?_of_block (ho.block (w.heap.size + 1) (by omega))).trans h.c3, (World.frozen?_of_block (ho.block (w.heap.size + 1) (by omega))).trans h.f3, h.own.other ho (by omega), h.bel.trans (ho.below (by omega))⟩
theorem GS.below {w wr w' : World} {bs : List Int} {b o C i B m : Nat} {fr : Int} {sv : Value} {E : Nat → Nat → Int} {I : Nat → Int} (h : GS w bs b o C i fr sv m E I wr) (hb : Below B wr w') (hB : wr.heap.size ≤ B) : GS w bs b o C i fr sv m E I w' := by
  have hlt := h.rd.lt
  exact ⟨h.rd.block (hb.block _ (by omega)), h.ent.block (hb.block _ (by omega)), there_block h.th (hb.block _ (by omega)), (World.cell?_of_block (hb.block (w.heap.size + 1) (by omega))).trans h.c3, (World.frozen?_of_block (hb.block (w.heap.size + 1) (by omega))).trans h.f3, h.own.below hb hB, h.bel.trans (hb.mono (by omega))⟩
theorem GS.drew {w wr : World} {bs : List Int} {b o C i m : Nat} {fr : Int} {sv : Value} {E : Nat → Nat → Int} {I : Nat → Int} (h : GS w bs b o C i fr sv m E I wr) : GS w bs b o C i fr sv m E I wr.drew := h.below ((Below.refl wr.heap.size wr).drew) (Nat.le_refl _)
theorem get_byte {w wr : World} {bs : List Int} {b o C i m : Nat} (j : Nat) (hj : i + 1 = j) {fr : Int} {sv : Value} {E : Nat → Nat → Int} {I : Nat → Int} (hby : ByteL bs) (hbs : 0 < bs.length → b < w.heap.size ∧ BytesAt w b o bs) (h : GS w bs b o C i fr sv m E I wr) :
    Calls Try.prog 69 #[.pointer (some ⟨w.heap.size + 1 + 1, 0, none⟩)] wr fun e w' => (i < bs.length ∧ e = .returned (.int .i64 (zz bs i)) ∧ GS w bs b o C j fr sv m E I w') ∨ (bs.length ≤ i ∧ e = .panicked wrongP ∧ GS w bs b o C i fr sv m E I w') := by
  subst hj
  by_cases hi : i < bs.length
  · obtain ⟨h1, h2⟩ := hbs (by omega)
    refine (byte_any _ b o _ C i bs wr rfl hby h.rd hi (h2.block (h.bel.block b h1)) (by omega)).mono ?_
    rintro e w' ⟨rfl, hr, ho⟩
    exact Or.inl ⟨hi, rfl, h.only ho hr⟩
  · have hle := h.rd.le
    obtain rfl : i = bs.length := by omega
    refine (byte_end _ b o _ C wr h.rd).mono ?_
    rintro e w' ⟨rfl, rfl⟩
    exact Or.inr ⟨Nat.le_refl _, rfl, h⟩
theorem results_get (tmps : Array Value) (w : World) (t2 t3 : Nat) (h2 : tmps.getD 2 undef = .pointer (some ⟨t2, 0, none⟩)) (h3 : tmps.getD 3 undef = .pointer (some ⟨t3, 0, none⟩)) (fr : Int) (sv : Value) (I : Nat → Int) (x : Int) (he : EntAt w t2 0 fr sv I) (hc : w.cell? ⟨t3, 0, none⟩ = some (.int .i64 x)) :
    (results Try.f67 tmps).run Try.prog w = .ok (.tuple #[.agg (entL fr sv I).toArray, .int .i64 x]) w := by
  have hl := run_loadVar_mid (P := Try.prog) w t2 0 37 (entL fr sv I) _ he.range Try.underlying37 rfl (size_ent fr sv I)
  have h2' : tmps[2]?.getD undef = .pointer (some ⟨t2, 0, none⟩) := by simpa using h2
  have h3' : tmps[3]?.getD undef = .pointer (some ⟨t3, 0, none⟩) := by simpa using h3
  have hl3 : (loadVar 3 ⟨t3, 0, none⟩).run Try.prog w = .ok (.int .i64 x) w := by simp [go_sem, hc]
  simp [results, Try.results67, h2', h3', asAddr, hl, hl3]
theorem get_bad {w wr : World} {bs : List Int} {b o C i m : Nat} {fr : Int} {sv : Value} {E : Nat → Nat → Int} {I : Nat → Int} (h : GS w bs b o C i fr sv m E I wr) (tmps : Array Value) (h2 : tmps.getD 2 undef = .pointer (some ⟨w.heap.size, 0, none⟩)) (h3 : tmps.getD 3 undef = .pointer (some ⟨w.heap.size + 1, 0, none⟩)) (R : Ending → World → Prop)
    (hR : ∀ w', Below w.heap.size w w' → R (.returned (.tuple #[.agg (entL 0 (.slice none 0 0) (fun _ => 0)).toArray, .int .i64 2])) w') :
    bodyPostD Try.prog Try.f67 R (.panic wrongP) { tmps := tmps, defers := [{ target := .fn (.func 68) #[.pointer (some ⟨w.heap.size, 0, none⟩), .pointer (some ⟨w.heap.size + 1, 0, none⟩)], args := #[] }] } wr := by
  show Leaves Try.prog Try.f67 tmps R _ (.panicking wrongP) wr
  refine leaves_cons (f := 68) (args := #[.pointer (some ⟨w.heap.size, 0, none⟩), .pointer (some ⟨w.heap.size + 1, 0, none⟩)]) (by simp) (by simp [go_sem]) ?_
  refine (catch_get w.heap.size (w.heap.size + 1) w.heap.size wr h.th 0 h.c3 h.f3 (by omega) (Nat.le_refl _) (by omega)).mono ?_
  rintro e u' w'' ⟨rfl, rfl, he, hc, hb⟩
  exact ⟨_, results_get tmps w'' _ _ h2 h3 _ _ _ _ he hc, hR _ (h.bel.trans hb)⟩
theorem get_good {w wr : World} {bs : List Int} {b o C i m : Nat} {fr : Int} {sv : Value} {E : Nat → Nat → Int} {I : Nat → Int} (h : GS w bs b o C i fr sv m E I wr) (tmps : Array Value) (h2 : tmps.getD 2 undef = .pointer (some ⟨w.heap.size, 0, none⟩)) (h3 : tmps.getD 3 undef = .pointer (some ⟨w.heap.size + 1, 0, none⟩)) (R : Ending → World → Prop)
    (hR : ∀ w', Below wr.heap.size wr w' → R (.returned (.tuple #[.agg (entL fr sv I).toArray, .int .i64 0])) w') :
    bodyPostD Try.prog Try.f67 R .ret { tmps := tmps, defers := [{ target := .fn (.func 68) #[.pointer (some ⟨w.heap.size, 0, none⟩), .pointer (some ⟨w.heap.size + 1, 0, none⟩)], args := #[] }] } wr := by
  show Leaves Try.prog Try.f67 tmps R _ .returning wr
  refine leaves_cons (f := 68) (args := #[.pointer (some ⟨w.heap.size, 0, none⟩), .pointer (some ⟨w.heap.size + 1, 0, none⟩)]) (by simp) (by simp [go_sem]) ?_
  refine (idle_get _ _ wr).mono ?_
  rintro e u' w'' ⟨rfl, rfl, hb⟩
  have hlt := h.rd.lt
  exact ⟨_, results_get tmps w'' _ _ h2 h3 _ _ _ _ (h.ent.block (hb.block _ (by omega))) ((World.cell?_of_block (hb.block (w.heap.size + 1) (by omega))).trans h.c3), hR _ hb⟩
def GW (w : World) (v : Value) : World := ((w.alloc (Obj.cells #[.int .i64 0, .slice none 0 0, .int .i8 0, .int .i8 0, .int .u8 0, .int .i8 0, .int .i8 0, .int .u8 0, .int .i8 0, .int .i8 0, .int .u8 0, .int .i8 0, .int .i8 0, .int .u8 0, .int .i8 0, .int .i8 0, .int .u8 0, .int .i8 0, .int .i8 0, .int .u8 0, .int .i8 0, .int .i8 0, .int .u8 0, .int .i8 0, .int .i8 0, .int .u8 0] 37)).alloc (Obj.cells #[.int .i64 0] 3)).alloc (Obj.cells #[v] 107)
theorem gs_start (w : World) (bs : List Int) (a : Option Addr) (b o C : Nat) (ha : 0 < bs.length → a = some ⟨b, o, none⟩) (hc : bs.length ≤ C) (hm : C ≤ maxLen) (E : Nat → Nat → Int) : GS w bs b o C 0 0 (.slice none 0 0) 0 E (fun _ => 0) (GW w (.slice a bs.length C)) := by
  unfold GW
  have e1 : EntAt (w.alloc (Obj.cells #[.int .i64 0, .slice none 0 0, .int .i8 0, .int .i8 0, .int .u8 0, .int .i8 0, .int .i8 0, .int .u8 0, .int .i8 0, .int .i8 0, .int .u8 0, .int .i8 0, .int .i8 0, .int .u8 0, .int .i8 0, .int .i8 0, .int .u8 0, .int .i8 0, .int .i8 0, .int .u8 0, .int .i8 0, .int .i8 0, .int .u8 0, .int .i8 0, .int .i8 0, .int .u8 0] 37)) w.heap.size 0 0 (.slice none 0 0) (fun _ => 0) := entAt_new 0 (.slice none 0 0) (fun _ => 0) 37 w
  have t1 : (w.alloc (Obj.cells #[.int .i64 0, .slice none 0 0, .int .i8 0, .int .i8 0, .int .u8 0, .int .i8 0, .int .i8 0, .int .u8 0, .int .i8 0, .int .i8 0, .int .u8 0, .int .i8 0, .int .i8 0, .int .u8 0, .int .i8 0, .int .i8 0, .int .u8 0, .int .i8 0, .int .i8 0, .int .u8 0, .int .i8 0, .int .i8 0, .int .u8 0, .int .i8 0, .int .i8 0, .int .u8 0] 37)).there w.heap.size 0 26 := fun j hj => by
    rw [e1.cell j hj, Nat.zero_add, World.frozen?_alloc_new]
    exact ⟨rfl, rfl⟩
  have s1 : (w.alloc (Obj.cells #[.int .i64 0, .slice none 0 0, .int .i8 0, .int .i8 0, .int .u8 0, .int .i8 0, .int .i8 0, .int .u8 0, .int .i8 0, .int .i8 0, .int .u8 0, .int .i8 0, .int .i8 0, .int .u8 0, .int .i8 0, .int .i8 0, .int .u8 0, .int .i8 0, .int .i8 0, .int .u8 0, .int .i8 0, .int .i8 0, .int .u8 0, .int .i8 0, .int .i8 0, .int .u8 0] 37)).heap.size = w.heap.size + 1 := by simp
  have b1 := (Below.refl w.heap.size w).alloc (Nat.le_refl _) (Obj.cells #[.int .i64 0, .slice none 0 0, .int .i8 0, .int .i8 0, .int .u8 0, .int .i8 0, .int .i8 0, .int .u8 0, .int .i8 0, .int .i8 0, .int .u8 0, .int .i8 0, .int .i8 0, .int .u8 0, .int .i8 0, .int .i8 0, .int .u8 0, .int .i8 0, .int .i8 0, .int .u8 0, .int .i8 0, .int .i8 0, .int .u8 0, .int .i8 0, .int .i8 0, .int .u8 0] 37)
  generalize w.alloc (Obj.cells #[.int .i64 0, .slice none 0 0, .int .i8 0, .int .i8 0, .int .u8 0, .int .i8 0, .int .i8 0, .int .u8 0, .int .i8 0, .int .i8 0, .int .u8 0, .int .i8 0, .int .i8 0, .int .u8 0, .int .i8 0, .int .i8 0, .int .u8 0, .int .i8 0, .int .i8 0, .int .u8 0, .int .i8 0, .int .i8 0, .int .u8 0, .int .i8 0, .int .i8 0, .int .u8 0] 37) = w1 at *
  have b2 := b1.alloc b1.size (Obj.cells #[.int .i64 0] 3)
  have k2 := Below.heap_alloc w1 (Obj.cells #[.int .i64 0] 3) w.heap.size (by omega)
  have c2 : (w1.alloc (Obj.cells #[.int .i64 0] 3)).cell? ⟨w.heap.size + 1, 0, none⟩ = some (.int .i64 0) := by rw [← s1, World.cell?_alloc_new]; rfl
  have f2 : (w1.alloc (Obj.cells #[.int .i64 0] 3)).frozen? ⟨w.heap.size + 1, 0, none⟩ = false := by rw [← s1, World.frozen?_alloc_new]
  have s2 : (w1.alloc (Obj.cells #[.int .i64 0] 3)).heap.size = w.heap.size + 1 + 1 := by simp; omega
  have e2 := e1.block k2
  have t2 := there_block t1 k2
  generalize w1.alloc (Obj.cells #[.int .i64 0] 3) = w2 at *
  have k3 := fun k (hk : k < w2.heap.size) => Below.heap_alloc w2 (Obj.cells #[.slice a bs.length C] 107) k hk
  refine ⟨⟨⟨a, ?_, fun h => by rw [ha h]; rfl⟩, ?_, Nat.zero_le _, hc, hm⟩, e2.block (k3 _ (by omega)), there_block t2 (k3 _ (by omega)), (World.cell?_of_block (k3 (w.heap.size + 1) (by omega))).trans c2, (World.frozen?_of_block (k3 (w.heap.size + 1) (by omega))).trans f2, World.ownsRow_nil _ _ _ _, b2.alloc b2.size _⟩
  · rw [← s2, World.cell?_alloc_new]; rfl
  · rw [← s2, World.frozen?_alloc_new]
end Go.Proofs.Ytembppihfcclcaa

namespace Go.Proofs.Ytembppihfcclcaa
set_option linter.unusedVariables false
open Go.ChangeShapes Go.WideShapes Go.ChangeAt Go.RowKit

theorem EntAt.set {w : World} {b : Nat} {fr fr' : Int} {sv sv' v : Value} {I I' : Nat → Int} (a : EntAt w b 0 fr sv I) (k : Nat) (h : ∀ j, j < 26 → entF fr' sv' I' j = if j = k then v else entF fr sv I j) : EntAt (w.setCell ⟨b, k, none⟩ v) b 0 fr' sv' I' := by
  constructor
  intro j hj
  rw [h j hj, Nat.zero_add]
  have hc := a.cell j hj
  rw [Nat.zero_add] at hc
  by_cases e : j = k
  · subst e
    rw [if_pos rfl]
    exact World.cell?_setCell_same _ _ _ hc
  · rw [if_neg e, World.cell?_setCell_other _ _ _ _ (by simp only [ne_eq, Addr.mk.injEq, true_and, and_true]; omega)]
    exact hc
theorem there_set {w : World} {b k : Nat} {v : Value} (h : w.there b 0 26) : (w.setCell ⟨b, k, none⟩ v).there b 0 26 := fun j hj => by
  obtain ⟨h1, h2⟩ := h j hj
  refine ⟨?_, by rw [World.frozen?_setCell]; exact h2⟩
  by_cases e : j = k
  · subst e
    obtain ⟨u, hu⟩ := Option.isSome_iff_exists.1 h1
    rw [Nat.zero_add] at hu ⊢
    rw [World.cell?_setCell_same _ _ _ hu]; rfl
  · rw [World.cell?_setCell_other _ _ _ _ (by simp only [ne_eq, Addr.mk.injEq, true_and, and_true]; omega)]
    exact h1
theorem GS.set {w wr : World} {bs : List Int} {b o C i m m' : Nat} {fr fr' : Int} {sv sv' v : Value} {E : Nat → Nat → Int} {I I' : Nat → Int} (h : GS w bs b o C i fr sv m E I wr) (k : Nat) (he : ∀ j, j < 26 → entF fr' sv' I' j = if j = k then v else entF fr sv I j) (ho : OwnE wr (w.heap.size + 3) sv' m' E) : GS w bs b o C i fr' sv' m' E I' (wr.setCell ⟨w.heap.size, k, none⟩ v) := by
  have hO := (Only.refl w.heap.size wr).setCell (p := ⟨w.heap.size, k, none⟩) rfl v
  exact ⟨h.rd.block (hO.block _ (by omega)), h.ent.set k he, there_set h.th, (World.cell?_of_block (hO.block (w.heap.size + 1) (by omega))).trans h.c3, (World.frozen?_of_block (hO.block (w.heap.size + 1) (by omega))).trans h.f3, ho.other hO (by omega), h.bel.trans (hO.below (Nat.le_refl _))⟩
theorem GS.setFr {w wr : World} {bs : List Int} {b o C i m : Nat} {fr x : Int} {sv : Value} {E : Nat → Nat → Int} {I : Nat → Int} (h : GS w bs b o C i fr sv m E I wr) : GS w bs b o C i x sv m E I (wr.setCell ⟨w.heap.size, 0, none⟩ (.int .i64 x)) :=
  h.set 0 (fun j _ => by unfold entF; split <;> rfl) h.own
theorem GS.setEv {w wr : World} {bs : List Int} {b o C i m m' : Nat} {fr : Int} {sv sv' : Value} {E : Nat → Nat → Int} {I : Nat → Int} (h : GS w bs b o C i fr sv m E I wr) (ho : OwnE wr (w.heap.size + 3) sv' m' E) : GS w bs b o C i fr sv' m' E I (wr.setCell ⟨w.heap.size, 1, none⟩ sv') :=
  h.set 1 (fun j _ => by
    unfold entF
    by_cases h0 : j = 0
    · rw [if_pos h0, if_pos h0, if_neg (by omega)]
    · rw [if_neg h0, if_neg h0]; split <;> rfl) ho
def updI (f : Nat → Int) (k : Nat) (x : Int) : Nat → Int := fun n => if n = k then x else f n
theorem GS.setIn {w wr : World} {bs : List Int} {b o C i m : Nat} {fr : Int} {sv : Value} {E : Nat → Nat → Int} {I : Nat → Int} (h : GS w bs b o C i fr sv m E I wr) (k : Nat) (hk : k < 24) (x : Int) : GS w bs b o C i fr sv m E (updI I k x) (wr.setCell ⟨w.heap.size, 2 + k, none⟩ (.int (if k % 3 = 2 then .u8 else .i8) x)) :=
  h.set (2 + k) (fun j _ => by
    unfold entF inpV updI
    by_cases h0 : j = 0
    · rw [if_pos h0, if_neg (by omega), if_pos h0]
    · by_cases h1 : j = 1
      · rw [if_neg h0, if_pos h1, if_neg (by omega), if_neg h0, if_pos h1]
      · by_cases h2 : j = 2 + k
        · rw [if_neg h0, if_neg h1, if_pos h2]
          subst h2
          rw [show 2 + k - 2 = k by omega, if_pos rfl]
        · rw [if_neg h0, if_neg h1, if_neg h2, if_neg h0, if_neg h1, if_neg (show ¬ (j - 2 = k) by omega)]) h.own
theorem or_add (k : Nat) (hk : k ≤ 32) (a b : Int) (ha : 0 ≤ a) (ha' : a < 2 ^ k) (hb : 0 ≤ b) (hb' : b < 256) : bits .or .i64 a (b * 2 ^ k) = a + b * 2 ^ k := by
  obtain ⟨x, rfl⟩ : ∃ x : Nat, a = x := ⟨a.toNat, by omega⟩
  obtain ⟨y, rfl⟩ : ∃ y : Nat, b = y := ⟨b.toNat, by omega⟩
  have hx : x < 2 ^ k := by exact_mod_cast ha'
  have hp : 2 ^ k ≤ 2 ^ 32 := Nat.pow_le_pow_right (by omega) hk
  have hy : y * 2 ^ k < 2 ^ 62 := by
    have : y * 2 ^ k ≤ 255 * 2 ^ 32 := Nat.mul_le_mul (by omega) hp
    omega
  have hx2 : x < 2 ^ 62 := by omega
  have h := (bits_nat .i64 62 (by decide) (fun n h0 h1 => IntWalk.i64_in n (by omega)) x (y * 2 ^ k) hx2 hy).2
  have e : ((y * 2 ^ k : Nat) : Int) = (y : Int) * 2 ^ k := by push_cast; rfl
  rw [e] at h
  have e2 : x ||| y * 2 ^ k = x + y * 2 ^ k := by
    rw [Nat.mul_comm y, Nat.or_comm, ← Nat.two_pow_add_eq_or_of_lt hx, Nat.add_comm]
  rw [h, e2]
  push_cast; rfl
theorem le2 (x y : Int) (hx : 0 ≤ x ∧ x < 256) (hy : 0 ≤ y ∧ y < 256) : bits .or .i64 x (wrap64 (y * 256)) = x + y * 256 := by
  have h := or_add 8 (by omega) x y hx.1 hx.2 hy.1 hy.2
  have e : wrap64 (y * 256) = y * 2 ^ 8 := by unfold wrap64; omega
  rw [e, h]; rfl
theorem le4 (x y z u : Int) (hx : 0 ≤ x ∧ x < 256) (hy : 0 ≤ y ∧ y < 256) (hz : 0 ≤ z ∧ z < 256) (hu : 0 ≤ u ∧ u < 256) : bits .or .i64 (bits .or .i64 (bits .or .i64 x (wrap64 (y * 256))) (wrap64 (z * 65536))) (wrap64 (u * 16777216)) = x + y * 256 + z * 65536 + u * 16777216 := by
  rw [le2 x y hx hy]
  have h1 := or_add 16 (by omega) (x + y * 256) z (by omega) (by omega) hz.1 hz.2
  have e1 : wrap64 (z * 65536) = z * 2 ^ 16 := by unfold wrap64; omega
  have h2 := or_add 24 (by omega) (x + y * 256 + z * 65536) u (by omega) (by omega) hu.1 hu.2
  have e2 : wrap64 (u * 16777216) = u * 2 ^ 24 := by unfold wrap64; omega
  rw [e1, h1, e2]
  exact h2
def gFr (bs : List Int) : Int := zz bs 0 + zz bs 1 * 256 + zz bs 2 * 65536 + zz bs 3 * 16777216
def gN (bs : List Int) : Nat := (zz bs 4).toNat
def gE (bs : List Int) (i j : Nat) : Int := if j = 0 then zz bs (5 + 5 * i) else if j = 1 then zz bs (5 + 5 * i + 1) else if j = 2 then zz bs (5 + 5 * i + 2) + zz bs (5 + 5 * i + 3) * 256 else zz bs (5 + 5 * i + 4)
def gM (bs : List Int) : Nat := (zz bs (5 + 5 * gN bs)).toNat
def gcnt (M : Nat) : Nat → Nat
  | 0 => 0
  | s + 1 => if M.testBit s then gcnt M s + 1 else gcnt M s
/-- A byte as a number with a sign. -/
def sgn (x : Int) : Int := if x < 128 then x else x - 256
def gI (bs : List Int) (k : Nat) : Int :=
  if (gM bs).testBit (k / 3) then
    (if k % 3 = 2 then zz bs (6 + 5 * gN bs + 3 * gcnt (gM bs) (k / 3) + k % 3) else sgn (zz bs (6 + 5 * gN bs + 3 * gcnt (gM bs) (k / 3) + k % 3)))
  else 0
/-- The inputs of the first s slots. -/
def gIs (bs : List Int) (s : Nat) : Nat → Int := fun k => if k < 3 * s then gI bs k else 0
def gTot (bs : List Int) : Nat := 6 + 5 * gN bs + 3 * gcnt (gM bs) 8
theorem gcnt_mono (M : Nat) (s t : Nat) (h : s ≤ t) : gcnt M s ≤ gcnt M t := by
  induction t with
  | zero => have : s = 0 := by omega
            subst this; exact Nat.le_refl _
  | succ t ih =>
    by_cases e : s = t + 1
    · subst e; exact Nat.le_refl _
    · have := ih (by omega)
      show gcnt M s ≤ if M.testBit t then gcnt M t + 1 else gcnt M t
      split <;> omega
def OkG (bs : List Int) : Prop := gTot bs ≤ bs.length ∧ mayE (gFr bs) (gN bs) (gE bs) (gI bs) = true ∧ putB (gFr bs) (gN bs) (gE bs) (gI bs) = bs
def GetPost (B : Nat) (bs : List Int) (e : Ending) (w : World) : Prop :=
  (OkG bs ∧ ∃ sv, e = .returned (.tuple #[.agg (entL (gFr bs) sv (gI bs)).toArray, .int .i64 0]) ∧ OwnE w B sv (gN bs) (gE bs)) ∨
  (¬ OkG bs ∧ e = .returned (.tuple #[.agg (entL 0 (.slice none 0 0) (fun _ => 0)).toArray, .int .i64 2]))
theorem OwnE.mono {w : World} {B B' : Nat} {sv : Value} {n : Nat} {E : Nat → Nat → Int} (h : OwnE w B sv n E) (hb : B' ≤ B) : OwnE w B' sv n E := by
  refine ⟨h.1, ?_⟩
  rcases h.2 with hn | ⟨g, cap, cur, h1, h2, h3⟩
  · exact Or.inl hn
  · exact Or.inr ⟨g, cap, cur, h1, by omega, h3⟩
theorem get_short {w wr : World} {bs : List Int} {b o C i m : Nat} {fr : Int} {sv : Value} {E : Nat → Nat → Int} {I : Nat → Int} (h : GS w bs b o C i fr sv m E I wr) (hlt : bs.length < gTot bs) (tmps : Array Value) (h2 : tmps.getD 2 undef = .pointer (some ⟨w.heap.size, 0, none⟩)) (h3 : tmps.getD 3 undef = .pointer (some ⟨w.heap.size + 1, 0, none⟩)) :
    bodyPostD Try.prog Try.f67 (fun e w' => GetPost w.heap.size bs e w' ∧ Below w.heap.size w w') (.panic wrongP) { tmps := tmps, defers := [{ target := .fn (.func 68) #[.pointer (some ⟨w.heap.size, 0, none⟩), .pointer (some ⟨w.heap.size + 1, 0, none⟩)], args := #[] }] } wr :=
  get_bad h tmps h2 h3 _ (fun w' hb => ⟨Or.inr ⟨fun h => by have := h.1; omega, rfl⟩, hb⟩)
theorem get_byteH {w wr : World} {bs : List Int} {b o C i m : Nat} {fr : Int} {sv : Value} {E : Nat → Nat → Int} {I : Nat → Int} (h : Hid (GS w bs b o C i fr sv m E I wr)) {j : Nat} (hj : Hid (i + 1 = j)) {x : Int} (hx : Hid (zz bs i = x)) (hby : ByteL bs) (hbs : 0 < bs.length → b < w.heap.size ∧ BytesAt w b o bs) :
    Calls Try.prog 69 #[.pointer (some ⟨w.heap.size + 1 + 1, 0, none⟩)] wr fun e w' => (e = .returned (.int .i64 x) ∧ Hid (GS w bs b o C j fr sv m E I w')) ∨ (bs.length ≤ i ∧ e = .panicked wrongP ∧ Hid (GS w bs b o C i fr sv m E I w')) := by
  rw [← hx.out]
  refine (get_byte j hj.out hby hbs h.out).mono ?_
  rintro e w' (⟨-, h1, h2⟩ | h1)
  · exact Or.inl ⟨h1, h2⟩
  · exact Or.inr h1
/-- append of one event to the events read so far, in a region that draws its order. -/
theorem step_app_ev {ops : Array Oper} {op : Oper} {a : Act} {w w1 : World} {K : Act → World → Prop} {Q : Exit → Act → World → Prop} {E' : Prop} (hg : op.guard = none)
    (s x : Operand) (ho : op.op = Op.call { callee := Callee.builtin Builtin.append, args := #[s, x], argTypes := #[31, 31] })
    (B : Nat) (sv : Value) (m : Nat) (E : Nat → Nat → Int) (hown : OwnE w1 B sv m E) (hm : m ≤ 1000) (hs : a.eval s = sv) (hB : B ≤ w1.heap.size)
    (hw : w = w1.alloc (Obj.cells #[.int .i64 (E m 0), .int .i64 (E m 1), .int .i64 (E m 2), .int .i64 (E m 3)] 43)) (hx : a.eval x = .slice (some ⟨w1.heap.size, 0, none⟩) 1 1)
    (h : ∀ v' w', OwnE w' B v' (m + 1) E → Below B w1 w' → (∃ g cap, v' = .slice (some ⟨g, 0, none⟩) (m + 1) cap) → K (a.put op.dst v') w') :
    if Region.wanted op (yielded ops a.tmps) = true then Oper.wp Try.prog op a w K Q else E' := by
  have hwn : Region.wanted op (yielded ops a.tmps) = true := by simp [Region.wanted, hg]
  rw [if_pos hwn]
  subst hw
  obtain ⟨i0, hi, hz0, hz1, hz2⟩ := info_parts (P := Try.prog) (e := 43) (z := .agg #[.int .i64 0, .int .i64 0, .int .i64 0, .int .i64 0]) (size := 4) (bytes := 32) (by kernel_rfl)
  refine wp_append_own _ s x 31 ho B 43 i0 (.agg #[.int .i64 0, .int .i64 0, .int .i64 0, .int .i64 0]) 4 32 Try.underlying31 hi hz0 hz1 hz2 rfl (by decide) sv m (evL E m) hs (World.ownsRow.alloc hown _) ⟨w1.heap.size, 0, none⟩ 1 1 [.int .i64 (E m 0), .int .i64 (E m 1), .int .i64 (E m 2), .int .i64 (E m 3)] hx rfl ?_ ?_ (by unfold maxLen; omega) (by omega) (by simp; omega) ?_
  · intro j u hj
    rw [Go.WideShapes.add_plain, World.cell?_alloc_new, Nat.zero_add, ← hj]
    exact List.getElem?_toArray
  · intro u hu
    simp only [List.mem_cons, List.not_mem_nil, or_false] at hu
    rcases hu with rfl | rfl | rfl | rfl <;> rfl
  · intro v' w' h1 h2 h3
    have hO : OwnE w' B v' (m + 1) E := h1
    refine h v' w' hO ?_ ?_
    · have hb := (Below.refl B w1).alloc hB (Obj.cells #[.int .i64 (E m 0), .int .i64 (E m 1), .int .i64 (E m 2), .int .i64 (E m 3)] 43)
      refine hb.grown h2 (by simp; omega) ?_
      intro k hk
      exact (World.ownsRow.lt hown k (by simpa using hk)).1
    · rcases h1.2 with ⟨-, h0⟩ | ⟨g, cap, cur, hv, -⟩
      · omega
      · exact ⟨g, cap, hv⟩
theorem step_app_evG {ops : Array Oper} {op : Oper} {a : Act} {w w1 w0 : World} {K : Act → World → Prop} {Q : Exit → Act → World → Prop} {E' : Prop} (hg : op.guard = none)
    (s x : Operand) (ho : op.op = Op.call { callee := Callee.builtin Builtin.append, args := #[s, x], argTypes := #[31, 31] })
    {bs : List Int} {b o C i m : Nat} {fr : Int} {sv : Value} {E : Nat → Nat → Int} {I : Nat → Int}
    (hw : w = w1.alloc (Obj.cells #[.int .i64 (E m 0), .int .i64 (E m 1), .int .i64 (E m 2), .int .i64 (E m 3)] 43)) (hG : Hid (GS w0 bs b o C i fr sv m E I w1)) (hm : m ≤ 1000) (hs : a.eval s = sv) (hx : a.eval x = .slice (some ⟨w1.heap.size, 0, none⟩) 1 1)
    (h : ∀ g cap w', Hid (GS w0 bs b o C i fr (.slice (some ⟨g, 0, none⟩) (m + 1) cap) (m + 1) E I (w'.setCell ⟨w0.heap.size, 1, none⟩ (.slice (some ⟨g, 0, none⟩) (m + 1) cap))) → w'.cell? ⟨w0.heap.size, 1, none⟩ = some sv → w'.frozen? ⟨w0.heap.size, 1, none⟩ = false → K (a.put op.dst (.slice (some ⟨g, 0, none⟩) (m + 1) cap)) w') :
    if Region.wanted op (yielded ops a.tmps) = true then Oper.wp Try.prog op a w K Q else E' := by
  have hlt := hG.out.rd.lt
  refine step_app_ev hg s x ho (w0.heap.size + 3) sv m E hG.out.own hm hs (by omega) hw hx ?_
  rintro v' w' hO hb ⟨g, cap, rfl⟩
  have hg' := hG.out
  have hG2 : GS w0 bs b o C i fr (.slice (some ⟨g, 0, none⟩) (m + 1) cap) (m + 1) E I (w'.setCell ⟨w0.heap.size, 1, none⟩ (.slice (some ⟨g, 0, none⟩) (m + 1) cap)) := by
    have e1 := hg'.ent.block (hb.block w0.heap.size (by omega))
    have t1 := there_block hg'.th (hb.block w0.heap.size (by omega))
    have hOn := (Only.refl w0.heap.size w').setCell (p := ⟨w0.heap.size, 1, none⟩) rfl (.slice (some ⟨g, 0, none⟩) (m + 1) cap)
    exact ⟨(hg'.rd.block (hb.block _ (by omega))).block (hOn.block _ (by omega)), e1.set 1 (fun j _ => by
      unfold entF
      by_cases h0 : j = 0
      · rw [if_pos h0, if_pos h0, if_neg (by omega)]
      · rw [if_neg h0, if_neg h0]; split <;> rfl), there_set t1, (World.cell?_of_block (hOn.block (w0.heap.size + 1) (by omega))).trans ((World.cell?_of_block (hb.block (w0.heap.size + 1) (by omega))).trans hg'.c3), (World.frozen?_of_block (hOn.block (w0.heap.size + 1) (by omega))).trans ((World.frozen?_of_block (hb.block (w0.heap.size + 1) (by omega))).trans hg'.f3), hO.other hOn (by omega), (hg'.bel.trans (hb.mono (by omega))).trans (hOn.below (Nat.le_refl _))⟩
  refine h g cap w' (Lib.hid hG2) ?_ ?_
  · exact (World.cell?_of_block (hb.block w0.heap.size (by omega))).trans hg'.ent.z1
  · exact (World.frozen?_of_block (hb.block w0.heap.size (by omega))).trans (hg'.th 1 (by omega)).2
theorem leaves_congr {P : Program} {fn : Func} {t t' : Array Value} {R : Ending → World → Prop} (h : ∀ v w, (results fn t).run P w = .ok v w → (results fn t').run P w = .ok v w) : ∀ (ds : List Deferred) (u : FrameMode) (w : World), Leaves P fn t R ds u w → Leaves P fn t' R ds u w
  | [], .returning, w, ⟨v, h1, h2⟩ => ⟨v, h _ _ h1, h2⟩
  | [], .panicking _, _, hl => hl
  | [], .run, _, hl => hl.elim
  | d :: ds, u, w, ⟨hu, fv, cap, f, args, h1, h2, h3⟩ => ⟨hu, fv, cap, f, args, h1, h2, h3.mono fun e u' w' he => by
      cases e with
      | returned v => exact leaves_congr h ds _ _ he
      | panicked chain => exact leaves_congr h ds _ _ he
      | outgrown => exact he⟩
/-- What is laid into a scratch slot of Get does not matter to who leaves it by a panic. -/
theorem get_put (k : Nat) (hk : k ≠ 2 ∧ k ≠ 3) (v : Value) (R : Ending → World → Prop) (c : List PanicEntry) (a : Act) (w : World) (h : bodyPostD Try.prog Try.f67 R (.panic c) (a.put (some k) v) w) : bodyPostD Try.prog Try.f67 R (.panic c) a w := by
  have h' : Leaves Try.prog Try.f67 (a.tmps.setIfInBounds k v) R a.defers (.panicking c) w := h
  show Leaves Try.prog Try.f67 a.tmps R a.defers (.panicking c) w
  refine leaves_congr (fun v' w' hr => ?_) _ _ _ h'
  have e2 : (a.tmps.setIfInBounds k v)[2]?.getD undef = a.tmps[2]?.getD undef := by rw [Array.getElem?_setIfInBounds, if_neg hk.1]
  have e3 : (a.tmps.setIfInBounds k v)[3]?.getD undef = a.tmps[3]?.getD undef := by rw [Array.getElem?_setIfInBounds, if_neg hk.2]
  simpa [results, Try.results67, e2, e3] using hr
theorem get_shortH {w wr : World} {bs : List Int} {b o C i m : Nat} {fr : Int} {sv : Value} {E : Nat → Nat → Int} {I : Nat → Int} (h : Hid (GS w bs b o C i fr sv m E I wr)) (hT : Hid (bs.length ≤ i → bs.length < gTot bs)) (hl : bs.length ≤ i) (tmps : Array Value) (h2 : tmps.getD 2 undef = .pointer (some ⟨w.heap.size, 0, none⟩)) (h3 : tmps.getD 3 undef = .pointer (some ⟨w.heap.size + 1, 0, none⟩)) :
    bodyPostD Try.prog Try.f67 (fun e w' => GetPost w.heap.size bs e w' ∧ Below w.heap.size w w') (.panic wrongP) { tmps := tmps, defers := [{ target := .fn (.func 68) #[.pointer (some ⟨w.heap.size, 0, none⟩), .pointer (some ⟨w.heap.size + 1, 0, none⟩)], args := #[] }] } wr :=
  get_short h.out (hT.out hl) tmps h2 h3
theorem gN_lt {bs : List Int} (h : ByteL bs) : gN bs < 256 := by
  have := h 4
  unfold gN
  omega
end Go.Proofs.Ytembppihfcclcaa
