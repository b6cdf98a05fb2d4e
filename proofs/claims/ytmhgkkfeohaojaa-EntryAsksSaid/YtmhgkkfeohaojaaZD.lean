/-
  Entry: where the reference's GetEntry stands.
-/
import Derived.Test.YtmhgkkfeohaojaaZC
namespace Go.Proofs.Ytmhgkkfeohaojaa
set_option linter.unusedVariables false
open Go.ChangeShapes Go.WideShapes Go.ChangeAt Go.RowKit

set_option linter.unusedSimpArgs false
structure GT (w : World) (b5 : Nat) (fr : Int) (sv : Value) (m : Nat) (E : Nat → Nat → Int) (I : Nat → Int) (wr : World) : Prop where
  g5 : w.heap.size + 2 ≤ b5
  th2 : wr.there w.heap.size 0 26
  ent : EntAt wr b5 0 fr sv I
  th5 : wr.there b5 0 26
  own : OwnE wr (b5 + 1) sv m E
  bel : Below w.heap.size w wr
theorem OwnE.rd {w w' : World} {B R m : Nat} {sv : Value} {E : Nat → Nat → Int} (h : OwnE w B sv m E) (hd : Rd R w w') (hR : R < B) : OwnE w' B sv m E := by
  refine World.ownsRow.kept (row := some R) h ⟨hd.os, hd.tape, hd.output, hd.size, fun k hk hr => hd.block k hk (fun e => hr (by rw [e]))⟩ ?_
  cases hv : sv.ownBlock with
  | none => exact Or.inl rfl
  | some g => exact Or.inr (fun e => by have := (World.ownsRow.lt h g hv).1; injection e with e; omega)
theorem GT.rd {w wr w' : World} {b5 : Nat} {fr : Int} {sv : Value} {m : Nat} {E : Nat → Nat → Int} {I : Nat → Int} (h : GT w b5 fr sv m E I wr) (hd : Rd (w.heap.size + 1) wr w') : GT w b5 fr sv m E I w' := by
  have hl := h.ent.lt
  have hg := h.g5
  exact ⟨hg, there_block h.th2 (hd.block _ (by omega) (by omega)), h.ent.block (hd.block _ hl (by omega)), there_block h.th5 (hd.block _ hl (by omega)), h.own.rd hd (by omega), h.bel.trans (hd.below (by omega) (by omega))⟩
theorem GT.below {w wr w' : World} {b5 : Nat} {fr : Int} {sv : Value} {m : Nat} {E : Nat → Nat → Int} {I : Nat → Int} (h : GT w b5 fr sv m E I wr) (hb : Below wr.heap.size wr w') : GT w b5 fr sv m E I w' := h.rd (Below.rd hb (Nat.le_refl _))
/-- A cell of the entry read so far turned. -/
theorem GT.set {w wr : World} {b5 : Nat} {fr fr' : Int} {sv sv' v : Value} {m m' : Nat} {E E' : Nat → Nat → Int} {I I' : Nat → Int} (h : GT w b5 fr sv m E I wr) (k : Nat) (he : ∀ j, j < 26 → entF fr' sv' I' j = if j = k then v else entF fr sv I j) (ho : OwnE wr (b5 + 1) sv' m' E') :
    GT w b5 fr' sv' m' E' I' (wr.setCell ⟨b5, k, none⟩ v) := by
  have hO := (Only.refl b5 wr).setCell (p := ⟨b5, k, none⟩) rfl v
  have hg := h.g5
  exact ⟨hg, there_block h.th2 (hO.block _ (by omega)), h.ent.set k he, there_set h.th5, ho.other hO (by omega), h.bel.trans (hO.below (by omega))⟩
theorem GT.setEv {w wr : World} {b5 : Nat} {fr : Int} {sv sv' : Value} {m m' : Nat} {E E' : Nat → Nat → Int} {I : Nat → Int} (h : GT w b5 fr sv m E I wr) (ho : OwnE wr (b5 + 1) sv' m' E') : GT w b5 fr sv' m' E' I (wr.setCell ⟨b5, 1, none⟩ sv') :=
  h.set 1 (fun j _ => by
    unfold entF
    by_cases h0 : j = 0
    · rw [if_pos h0, if_pos h0, if_neg (by omega)]
    · rw [if_neg h0, if_neg h0]; split <;> rfl) ho
theorem GT.setIn {w wr : World} {b5 : Nat} {fr : Int} {sv : Value} {m : Nat} {E : Nat → Nat → Int} {I : Nat → Int} (h : GT w b5 fr sv m E I wr) (k : Nat) (hk : k < 24) (x : Int) : GT w b5 fr sv m E (updI I k x) (wr.setCell ⟨b5, 2 + k, none⟩ (.int (if k % 3 = 2 then .u8 else .i8) x)) :=
  h.set (2 + k) (fun j _ => by
    unfold entF inpV updI
    by_cases h0 : j = 0
    · rw [if_pos h0, if_neg (by omega), if_pos h0]
    · by_cases h1 : j = 1
      · rw [if_neg h0, if_pos h1, if_neg (by omega), if_neg h0, if_pos h1]
      · by_cases h2 : j = 2 + k
        · rw [if_neg h0, if_neg h1, if_pos h2]
          subst h2
          rw [show 2 + k - 2 = k by omega, if_pos rfl]
        · rw [if_neg h0, if_neg h1, if_neg h2, if_neg h0, if_neg h1, if_neg (show ¬ (j - 2 = k) by omega)]) h.own
theorem GT.set3 {w wr : World} {b5 : Nat} {fr : Int} {sv : Value} {m : Nat} {E : Nat → Nat → Int} {I : Nat → Int} (h : GT w b5 fr sv m E I wr) (s : Nat) (hs : s < 8) (x y z : Int) :
    GT w b5 fr sv m E (updI (updI (updI I (s * 3) x) (s * 3 + 1) y) (s * 3 + 2) z) (((wr.setCell ⟨b5, 2 + s * 3, none⟩ (.int .i8 x)).setCell ⟨b5, 2 + s * 3 + 1, none⟩ (.int .i8 y)).setCell ⟨b5, 2 + s * 3 + 2, none⟩ (.int .u8 z)) := by
  have h1 := h.setIn (s * 3) (by omega) x
  rw [if_neg (show ¬ (s * 3 % 3 = 2) by omega)] at h1
  have h2 := h1.setIn (s * 3 + 1) (by omega) y
  rw [if_neg (show ¬ ((s * 3 + 1) % 3 = 2) by omega)] at h2
  have h3 := h2.setIn (s * 3 + 2) (by omega) z
  rw [if_pos (show (s * 3 + 2) % 3 = 2 by omega)] at h3
  exact h3
/-- An event in a block of its own. -/
structure XC (w : World) (b : Nat) (e0 e1 e2 e3 : Int) : Prop where
  c0 : w.cell? ⟨b, 0, none⟩ = some (.int .i64 e0)
  c1 : w.cell? ⟨b, 1, none⟩ = some (.int .i64 e1)
  c2 : w.cell? ⟨b, 2, none⟩ = some (.int .i64 e2)
  c3 : w.cell? ⟨b, 3, none⟩ = some (.int .i64 e3)
  f : ∀ j, j < 4 → w.frozen? ⟨b, j, none⟩ = false
theorem XC.block {w w' : World} {b : Nat} {e0 e1 e2 e3 : Int} (h : XC w b e0 e1 e2 e3) (k : w'.heap[b]? = w.heap[b]?) : XC w' b e0 e1 e2 e3 :=
  ⟨(World.cell?_of_block k).trans h.c0, (World.cell?_of_block k).trans h.c1, (World.cell?_of_block k).trans h.c2, (World.cell?_of_block k).trans h.c3, fun j hj => (World.frozen?_of_block k).trans (h.f j hj)⟩
theorem XC.new (w : World) (e0 e1 e2 e3 : Int) (T : TypeId) : XC (w.alloc (Obj.cells #[.int .i64 e0, .int .i64 e1, .int .i64 e2, .int .i64 e3] T)) w.heap.size e0 e1 e2 e3 := by
  refine ⟨?_, ?_, ?_, ?_, fun j _ => by rw [World.frozen?_alloc_new]⟩
  all_goals (rw [World.cell?_alloc_new]; rfl)
theorem XC.lt {w : World} {b : Nat} {e0 e1 e2 e3 : Int} (h : XC w b e0 e1 e2 e3) : b < w.heap.size := block_of_cell h.c0
theorem XC.set1 {w : World} {b : Nat} {e0 e1 e2 e3 : Int} (h : XC w b e0 e1 e2 e3) (x : Int) : XC (w.setCell ⟨b, 1, none⟩ (.int .i64 x)) b e0 x e2 e3 :=
  ⟨(World.cell?_setCell_other _ _ _ _ (by simp)).trans h.c0, World.cell?_setCell_same _ _ _ h.c1, (World.cell?_setCell_other _ _ _ _ (by simp)).trans h.c2, (World.cell?_setCell_other _ _ _ _ (by simp)).trans h.c3, fun j hj => by rw [World.frozen?_setCell]; exact h.f j hj⟩
theorem XC.set2 {w : World} {b : Nat} {e0 e1 e2 e3 : Int} (h : XC w b e0 e1 e2 e3) (x : Int) : XC (w.setCell ⟨b, 2, none⟩ (.int .i64 x)) b e0 e1 x e3 :=
  ⟨(World.cell?_setCell_other _ _ _ _ (by simp)).trans h.c0, (World.cell?_setCell_other _ _ _ _ (by simp)).trans h.c1, World.cell?_setCell_same _ _ _ h.c2, (World.cell?_setCell_other _ _ _ _ (by simp)).trans h.c3, fun j hj => by rw [World.frozen?_setCell]; exact h.f j hj⟩
theorem XC.set3 {w : World} {b : Nat} {e0 e1 e2 e3 : Int} (h : XC w b e0 e1 e2 e3) (x : Int) : XC (w.setCell ⟨b, 3, none⟩ (.int .i64 x)) b e0 e1 e2 x :=
  ⟨(World.cell?_setCell_other _ _ _ _ (by simp)).trans h.c0, (World.cell?_setCell_other _ _ _ _ (by simp)).trans h.c1, (World.cell?_setCell_other _ _ _ _ (by simp)).trans h.c2, World.cell?_setCell_same _ _ _ h.c3, fun j hj => by rw [World.frozen?_setCell]; exact h.f j hj⟩
def updE (E : Nat → Nat → Int) (m : Nat) (e0 e1 e2 e3 : Int) : Nat → Nat → Int := fun i j => if i = m then (if j = 0 then e0 else if j = 1 then e1 else if j = 2 then e2 else e3) else E i j
theorem evL_upd (E : Nat → Nat → Int) (m : Nat) (e0 e1 e2 e3 : Int) : evL (updE E m e0 e1 e2 e3) (m + 1) = evL E m ++ [.int .i64 e0, .int .i64 e1, .int .i64 e2, .int .i64 e3] := by
  have h : evL (updE E m e0 e1 e2 e3) m = evL E m := evL_congr m (fun i hi j _ => by unfold updE; rw [if_neg (by omega)])
  show evL (updE E m e0 e1 e2 e3) m ++ _ = _
  rw [h]
  unfold updE
  simp
/-- append of one event to events of the call's own. -/
theorem step_app_evL {ops : Array Oper} {rest : List Oper} {op : Oper} {a : Act} {Q : Exit → Act → World → Prop} (hgd : op.guard = none) (s x : Operand)
    (ho : op.op = Op.call { callee := Callee.builtin Builtin.append, args := #[s, x], argTypes := #[22, 22] })
    (B : Nat) (sv : Value) (m : Nat) (E : Nat → Nat → Int) (w : World) (hs : a.eval s = sv) (hown : OwnE w B sv m E) (hB : B ≤ w.heap.size) (e0 e1 e2 e3 : Int) (T : Nat) (hT : w.heap.size = T) (hx : a.eval x = .slice (some ⟨T, 0, none⟩) 1 1) (hm : m ≤ 1000)
    (h : ∀ v' w', OwnE w' B v' (m + 1) (updE E m e0 e1 e2 e3) → Below B w w' → (∃ g cap, v' = .slice (some ⟨g, 0, none⟩) (m + 1) cap) → wpList Try.prog ops Q rest (a.put op.dst v') w') :
    wpList Try.prog ops Q (op :: rest) a (w.alloc (Obj.cells #[.int .i64 e0, .int .i64 e1, .int .i64 e2, .int .i64 e3] 43)) := by
  subst hT
  obtain ⟨i0, hi, hz0, hz1, hz2⟩ := info_parts (P := Try.prog) (e := 43) (z := .agg #[.int .i64 0, .int .i64 0, .int .i64 0, .int .i64 0]) (size := 4) (bytes := 32) (by kernel_rfl)
  refine wpList_append_own _ hgd s x 22 ho B 43 i0 (.agg #[.int .i64 0, .int .i64 0, .int .i64 0, .int .i64 0]) 4 32 Try.underlying22 hi hz0 hz1 hz2 rfl (by decide) sv m (evL E m) hs (World.ownsRow.alloc hown _) ⟨w.heap.size, 0, none⟩ 1 1 [.int .i64 e0, .int .i64 e1, .int .i64 e2, .int .i64 e3] hx rfl ?_ ?_ (by unfold maxLen; omega) (by omega) (by simp; omega) ?_
  · intro j u hj
    rw [Go.WideShapes.add_plain, World.cell?_alloc_new, Nat.zero_add, ← hj]
    exact List.getElem?_toArray
  · intro u hu
    simp only [List.mem_cons, List.not_mem_nil, or_false] at hu
    rcases hu with rfl | rfl | rfl | rfl <;> rfl
  · intro v' w' h1 h2 h3
    rw [← evL_upd] at h1
    refine h v' w' h1 ?_ ?_
    · have hb := (Below.refl B w).alloc hB (Obj.cells #[.int .i64 e0, .int .i64 e1, .int .i64 e2, .int .i64 e3] 43)
      refine hb.grown h2 (by simp; omega) ?_
      intro k hk
      exact (World.ownsRow.lt hown k (by simpa using hk)).1
    · rcases h1.2 with ⟨-, h0⟩ | ⟨g, cap, cur, hv, -⟩
      · omega
      · exact ⟨g, cap, hv⟩
theorem build_z (w : World) : (Instr.build 28 #[]).run Try.prog w = .ok (.agg (entL 0 (.slice none 0 0) (fun _ => 0)).toArray) w := by kernel_rfl
theorem results_ge (tmps : Array Value) (w : World) (t2 : Nat) (x : Int) (h2 : tmps.getD 2 undef = .pointer (some ⟨t2, 0, none⟩)) (h3 : tmps.getD 3 undef = .int .i64 x) (fr : Int) (sv : Value) (I : Nat → Int) (he : EntAt w t2 0 fr sv I) :
    (results Try.f15 tmps).run Try.prog w = .ok (.tuple #[.agg (entL fr sv I).toArray, .int .i64 x]) w := by
  have hl := run_loadVar_mid (P := Try.prog) w t2 0 28 (entL fr sv I) _ he.range Try.underlying28 rfl (size_ent fr sv I)
  have h2' : tmps[2]?.getD undef = .pointer (some ⟨t2, 0, none⟩) := by simpa using h2
  have h3' : tmps[3]?.getD undef = .int .i64 x := by simpa using h3
  simp [results, Try.results15, h2', h3', asAddr, hl]
theorem RG.setBad {w : World} {R : Nat} {l : List Int} {bad : Bool} (h : RG w R l bad) (b : Bool) : RG (w.setCell ⟨R, 1, none⟩ (.bool b)) R l b :=
  ⟨(World.cell?_setCell_other _ _ _ _ (by simp)).trans h.c0, World.cell?_setCell_same _ _ _ h.c1, by rw [World.frozen?_setCell]; exact h.f0, by rw [World.frozen?_setCell]; exact h.f1⟩
theorem GT.setR {w wr : World} {b5 : Nat} {fr : Int} {sv v : Value} {m : Nat} {E : Nat → Nat → Int} {I : Nat → Int} (h : GT w b5 fr sv m E I wr) (k : Nat) : GT w b5 fr sv m E I (wr.setCell ⟨w.heap.size + 1, k, none⟩ v) :=
  h.rd ((Only.refl (w.heap.size + 1) wr).setCell (p := ⟨w.heap.size + 1, k, none⟩) rfl v).rd
theorem GT.congr {w wr : World} {b5 : Nat} {fr fr' : Int} {sv : Value} {m : Nat} {E : Nat → Nat → Int} {I : Nat → Int} (h : GT w b5 fr sv m E I wr) (e : fr = fr') : GT w b5 fr' sv m E I wr := e ▸ h
/-- Where the reading starts: the entry returned, the reader, the entry read. -/
theorem gt_start (w w3 : World) (fr : Int) (ht : w3.there w.heap.size 0 26) (hs : w.heap.size + 2 ≤ w3.heap.size) (hb : Below w.heap.size w w3) : GT w w3.heap.size fr (.slice none 0 0) 0 (fun _ _ => 0) (fun _ => 0) (w3.alloc (Obj.cells (entL fr (.slice none 0 0) (fun _ => 0)).toArray 28)) := by
  have e1 := entAt_new fr (.slice none 0 0) (fun _ => 0) 28 w3
  refine ⟨hs, there_block ht (Below.heap_alloc w3 _ _ (by omega)), e1, fun j hj => ?_, World.ownsRow_nil _ _ _ _, hb.alloc hb.size _⟩
  rw [e1.cell j hj, Nat.zero_add, World.frozen?_alloc_new]
  exact ⟨rfl, rfl⟩
theorem there_new (w : World) : (w.alloc (Obj.cells (entL 0 (.slice none 0 0) (fun _ => 0)).toArray 28)).there w.heap.size 0 26 := fun j hj => by
  have e1 := entAt_new 0 (.slice none 0 0) (fun _ => 0) 28 w
  rw [e1.cell j hj, Nat.zero_add, World.frozen?_alloc_new]
  exact ⟨rfl, rfl⟩
theorem RG.new (w : World) (l : List Int) (R : Nat) (hR : w.heap.size = R) : RG (w.alloc (Obj.cells #[.string (strOfNums l), .bool false] 65)) R l false := by
  subst hR
  refine ⟨?_, ?_, ?_, ?_⟩
  · rw [World.cell?_alloc_new]; rfl
  · rw [World.cell?_alloc_new]; rfl
  · rw [World.frozen?_alloc_new]
  · rw [World.frozen?_alloc_new]
theorem GT.app {w wr w' : World} {b5 : Nat} {fr : Int} {sv sv' : Value} {m m' : Nat} {E E' : Nat → Nat → Int} {I : Nat → Int} (h : GT w b5 fr sv m E I wr) (hb : Below (b5 + 1) wr w') (ho : OwnE w' (b5 + 1) sv' m' E') : GT w b5 fr sv' m' E' I (w'.setCell ⟨b5, 1, none⟩ sv') := by
  have hg := h.g5
  have hO := (Only.refl b5 w').setCell (p := ⟨b5, 1, none⟩) rfl sv'
  exact ⟨hg, there_block (there_block h.th2 (hb.block _ (by omega))) (hO.block _ (by omega)), (h.ent.block (hb.block _ (by omega))).set 1 (fun j _ => by
    unfold entF
    by_cases h0 : j = 0
    · rw [if_pos h0, if_pos h0, if_neg (by omega)]
    · rw [if_neg h0, if_neg h0]; split <;> rfl), there_set (there_block h.th5 (hb.block _ (by omega))), ho.other hO (by omega), (h.bel.trans (hb.mono (by omega))).trans (hO.below (by omega))⟩
end Go.Proofs.Ytmhgkkfeohaojaa
