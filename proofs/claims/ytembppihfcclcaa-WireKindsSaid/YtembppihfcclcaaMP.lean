/-
  Wire: Get's state.
-/
import Derived.Test.YtembppihfcclcaaMO
namespace Go.Proofs.Ytembppihfcclcaa
set_option linter.unusedVariables false
open Go.ChangeShapes Go.WideShapes Go.ChangeAt Go.RowKit

set_option linter.unusedSimpArgs false
/-- What is laid into a scratch slot of Get does not matter to who leaves it by a panic. -/
theorem getW_put (k : Nat) (hk : k ≠ 2 ∧ k ≠ 3) (v : Value) (R : Ending → World → Prop) (c : List PanicEntry) (a : Act) (w : World) (h : bodyPostD Try.prog Try.f20 R (.panic c) (a.put (some k) v) w) : bodyPostD Try.prog Try.f20 R (.panic c) a w := by
  have h' : Leaves Try.prog Try.f20 (a.tmps.setIfInBounds k v) R a.defers (.panicking c) w := h
  show Leaves Try.prog Try.f20 a.tmps R a.defers (.panicking c) w
  refine leaves_congr (fun v' w' hr => ?_) _ _ _ h'
  have e2 : (a.tmps.setIfInBounds k v)[2]?.getD undef = a.tmps[2]?.getD undef := by rw [Array.getElem?_setIfInBounds, if_neg hk.1]
  have e3 : (a.tmps.setIfInBounds k v)[3]?.getD undef = a.tmps[3]?.getD undef := by rw [Array.getElem?_setIfInBounds, if_neg hk.2]
  simpa [results, Try.results20, e2, e3] using hr
theorem results_getW (tmps : Array Value) (w : World) (t2 t3 : Nat) (h2 : tmps.getD 2 undef = .pointer (some ⟨t2, 0, none⟩)) (h3 : tmps.getD 3 undef = .pointer (some ⟨t3, 0, none⟩)) (F : Nat → Int) (iv lv dv : Value) (x : Int) (he : MsgAt w t2 F iv lv dv) (hc : w.cell? ⟨t3, 0, none⟩ = some (.int .i64 x)) :
    (results Try.f20 tmps).run Try.prog w = .ok (.tuple #[.agg (msgL F iv lv dv).toArray, .int .i64 x]) w := by
  have hl := run_loadVar_mid (P := Try.prog) w t2 0 30 (msgL F iv lv dv) _ he.range Try.underlying30 rfl (size_msg F iv lv dv)
  have h2' : tmps[2]?.getD undef = .pointer (some ⟨t2, 0, none⟩) := by simpa using h2
  have h3' : tmps[3]?.getD undef = .pointer (some ⟨t3, 0, none⟩) := by simpa using h3
  have hl3 : (loadVar 3 ⟨t3, 0, none⟩).run Try.prog w = .ok (.int .i64 x) w := by simp [go_sem, hc]
  simp [results, Try.results20, h2', h3', asAddr, hl, hl3]
/-- Where Get stands: the result so far, the code. -/
structure GX (w : World) (F : Nat → Int) (iv lv dv : Value) (x : Int) (wr : World) : Prop where
  msg : MsgAt wr w.heap.size F iv lv dv
  th : wr.there w.heap.size 0 16
  c3 : wr.cell? ⟨w.heap.size + 1, 0, none⟩ = some (.int .i64 x)
  f3 : wr.frozen? ⟨w.heap.size + 1, 0, none⟩ = false
  bel : Below w.heap.size w wr
theorem GX.lt {w wr : World} {F : Nat → Int} {iv lv dv : Value} {x : Int} (h : GX w F iv lv dv x wr) : w.heap.size + 1 < wr.heap.size := block_of_cell h.c3
theorem GX.grow {w wr w' : World} {F : Nat → Int} {iv lv dv : Value} {x : Int} {B : Nat} (h : GX w F iv lv dv x wr) (hb : Below B wr w') (hs : w.heap.size + 2 ≤ B) : GX w F iv lv dv x w' :=
  ⟨h.msg.block (hb.block _ (by omega)), there_block h.th (hb.block _ (by omega)), (World.cell?_of_block (a := ⟨w.heap.size + 1, 0, none⟩) (hb.block (w.heap.size + 1) (by omega))).trans h.c3, (World.frozen?_of_block (a := ⟨w.heap.size + 1, 0, none⟩) (hb.block (w.heap.size + 1) (by omega))).trans h.f3, h.bel.trans (hb.mono (by omega))⟩
theorem getW_bad {w wr : World} {F : Nat → Int} {iv lv dv : Value} {x : Int} (h : GX w F iv lv dv x wr) (tmps : Array Value) (h2 : tmps.getD 2 undef = .pointer (some ⟨w.heap.size, 0, none⟩)) (h3 : tmps.getD 3 undef = .pointer (some ⟨w.heap.size + 1, 0, none⟩)) (R : Ending → World → Prop)
    (hR : ∀ w', Below w.heap.size w w' → R (.returned (.tuple #[.agg zL.toArray, .int .i64 2])) w') :
    bodyPostD Try.prog Try.f20 R (.panic wrongW) { tmps := tmps, defers := [{ target := .fn (.func 41) #[.pointer (some ⟨w.heap.size, 0, none⟩), .pointer (some ⟨w.heap.size + 1, 0, none⟩)], args := #[] }] } wr := by
  show Leaves Try.prog Try.f20 tmps R _ (.panicking wrongW) wr
  refine leaves_cons (f := 41) (args := #[.pointer (some ⟨w.heap.size, 0, none⟩), .pointer (some ⟨w.heap.size + 1, 0, none⟩)]) (by simp) (by simp [go_sem]) ?_
  refine (catch_getW w.heap.size (w.heap.size + 1) w.heap.size wr h.th x h.c3 h.f3 (by omega) (Nat.le_refl _) (by omega)).mono ?_
  rintro e u' w'' ⟨rfl, rfl, he, hc, hb⟩
  exact ⟨_, results_getW tmps w'' _ _ h2 h3 _ _ _ _ _ he hc, hR _ (h.bel.trans hb)⟩
theorem getW_good {w wr : World} {F : Nat → Int} {iv lv dv : Value} {x : Int} (h : GX w F iv lv dv x wr) (tmps : Array Value) (h2 : tmps.getD 2 undef = .pointer (some ⟨w.heap.size, 0, none⟩)) (h3 : tmps.getD 3 undef = .pointer (some ⟨w.heap.size + 1, 0, none⟩)) (R : Ending → World → Prop)
    (hR : ∀ w', Below wr.heap.size wr w' → R (.returned (.tuple #[.agg (msgL F iv lv dv).toArray, .int .i64 x])) w') :
    bodyPostD Try.prog Try.f20 R .ret { tmps := tmps, defers := [{ target := .fn (.func 41) #[.pointer (some ⟨w.heap.size, 0, none⟩), .pointer (some ⟨w.heap.size + 1, 0, none⟩)], args := #[] }] } wr := by
  show Leaves Try.prog Try.f20 tmps R _ .returning wr
  refine leaves_cons (f := 41) (args := #[.pointer (some ⟨w.heap.size, 0, none⟩), .pointer (some ⟨w.heap.size + 1, 0, none⟩)]) (by simp) (by simp [go_sem]) ?_
  refine (idle_getW _ _ wr).mono ?_
  rintro e u' w'' ⟨rfl, rfl, hb⟩
  have hlt := h.lt
  have hG := h.grow hb (by omega)
  exact ⟨_, results_getW tmps w'' _ _ h2 h3 _ _ _ _ _ hG.msg hG.c3, hR _ hb⟩
end Go.Proofs.Ytembppihfcclcaa
