/-
  Entry: values of entries laid whole; the entry of told.
-/
import Derived.Test.YtembppihfcclcaaK
import Derived.Laws.BytesArg
namespace Go.Proofs.Ytembppihfcclcaa
set_option linter.unusedVariables false
open Go.ChangeShapes Go.WideShapes Go.ChangeAt Go.RowKit

def entZ (fr : Int) : List Value := entL fr (.slice none 0 0) (fun _ => 0)
theorem zeroEnt (w : World) : (zeroValue 37).run Try.prog w = .ok (.agg (entL 0 (.slice none 0 0) (fun _ => 0)).toArray) w := by kernel_rfl
theorem build_fr (fr : Int) (w : World) : (Instr.build 37 #[(0, .int .i64 fr)]).run Try.prog w = .ok (.agg (entL fr (.slice none 0 0) (fun _ => 0)).toArray) w := by kernel_rfl
theorem build_ev (a : Option Addr) (n c : Nat) (w : World) : (Instr.build 37 #[(1, .slice a n c)]).run Try.prog w = .ok (.agg (entL 0 (.slice a n c) (fun _ => 0)).toArray) w := by kernel_rfl
theorem wpList_run {W W' : World} {ops : Array Oper} {rest : List Oper} {o : Oper} {a : Act} {Q : Exit → Act → World → Prop} {v : Value} (hg : Region.wanted o (yielded ops a.tmps) = true) (hr : (execOp a.eval o).run Try.prog W = .ok (.value v) W')
    (hK : wpList Try.prog ops Q rest (a.put o.dst v) W') : wpList Try.prog ops Q (o :: rest) a W :=
  wpList_step fun K' hK' => by
    rw [if_pos hg]
    unfold Oper.wp
    rw [hr]
    exact hK' _ _ hK
theorem wpList_build_fr {W : World} {ops : Array Oper} {rest : List Oper} {o : Oper} {a : Act} {Q : Exit → Act → World → Prop} (fr : Int) (hg : Region.wanted o (yielded ops a.tmps) = true) (p : Operand) (hop : o.op = Op.build 37 #[(0, p)]) (hp : a.eval p = .int .i64 fr)
    (hK : wpList Try.prog ops Q rest (a.put o.dst (.agg (entL fr (.slice none 0 0) (fun _ => 0)).toArray)) W) : wpList Try.prog ops Q (o :: rest) a W := by
  refine wpList_run hg ?_ hK
  have e : (Array.map (fun x => (x.fst, a.eval x.snd)) #[(0, p)] : Array (Nat × Value)) = #[(0, .int .i64 fr)] := by simp [hp]
  simp only [execOp, hop]
  rw [e, Sem.run_bind, build_fr]
  rfl
theorem wpList_build_ev {W : World} {ops : Array Oper} {rest : List Oper} {o : Oper} {a : Act} {Q : Exit → Act → World → Prop} (ad : Option Addr) (n c : Nat) (hg : Region.wanted o (yielded ops a.tmps) = true) (p : Operand) (hop : o.op = Op.build 37 #[(1, p)]) (hp : a.eval p = .slice ad n c)
    (hK : wpList Try.prog ops Q rest (a.put o.dst (.agg (entL 0 (.slice ad n c) (fun _ => 0)).toArray)) W) : wpList Try.prog ops Q (o :: rest) a W := by
  refine wpList_run hg ?_ hK
  have e : (Array.map (fun x => (x.fst, a.eval x.snd)) #[(1, p)] : Array (Nat × Value)) = #[(1, .slice ad n c)] := by simp [hp]
  simp only [execOp, hop]
  rw [e, Sem.run_bind, build_ev]
  rfl
theorem bs_ent (fr : Int) (sv : Value) (I : Nat → Int) (w : World) : (Instr.buildSlice 27 1 #[(0, .agg (entL fr sv I).toArray)]).run Try.prog w = .ok (.slice (some ⟨w.heap.size, 0, none⟩) 1 1) (w.alloc (Obj.cells (entL fr sv I).toArray 37)) := by kernel_rfl
theorem wpList_bs_ent {W : World} {ops : Array Oper} {rest : List Oper} {o : Oper} {a : Act} {Q : Exit → Act → World → Prop} (fr : Int) (sv : Value) (I : Nat → Int) (hg : Region.wanted o (yielded ops a.tmps) = true) (p : Operand) (hop : o.op = Op.buildSlice 27 1 #[(0, p)]) (hp : a.eval p = .agg (entL fr sv I).toArray)
    (hK : wpList Try.prog ops Q rest (a.put o.dst (.slice (some ⟨W.heap.size, 0, none⟩) 1 1)) (W.alloc (Obj.cells (entL fr sv I).toArray 37))) : wpList Try.prog ops Q (o :: rest) a W := by
  refine wpList_run hg ?_ hK
  have e : (Array.map (fun x => (x.fst, a.eval x.snd)) #[(0, p)] : Array (Nat × Value)) = #[(0, .agg (entL fr sv I).toArray)] := by simp [hp]
  simp only [execOp, hop]
  rw [e, Sem.run_bind, bs_ent]
  rfl
theorem store_new (fr : Int) (sv : Value) (I : Nat → Int) (h1 : (entL fr sv I).toArray.all (·.oneCell') = true) (w : World) (B : Nat) (hB : w.heap.size = B) :
    (storeCells ⟨B, 0, none⟩ (entL fr sv I)).run Try.prog (w.alloc (Obj.cells (entL 0 (.slice none 0 0) (fun _ => 0)).toArray 37)) = .ok () (w.alloc (Obj.cells (entL fr sv I).toArray 37)) :=
  run_store_new' _ _ _ w B hB (by rw [entL_len, List.size_toArray, entL_len]) h1
theorem fz_new (vs : List Value) (T : TypeId) (w : World) (k : Nat) : (w.alloc (Obj.cells vs.toArray T)).frozen? ⟨w.heap.size, k, none⟩ = false := by rw [World.frozen?_alloc_new]
theorem conv_bytes {w : World} {v : Value} {bs : List Int} (h : BytesV w v bs) (hn : 0 < bs.length) : (convert 28 9 v).run Try.prog w = .ok (.string (strOfNums bs)) w := by
  obtain ⟨a, cap, rfl, h1, h2, h3⟩ := h
  obtain ⟨b, o, rfl, -, h4⟩ := h3 hn
  exact run_convert_bytes_arg w 28 5 Try.underlying28 Try.underlying5 b o _ cap bs rfl h4 9 Try.underlying9
def tb : List Int := [7, 0, 0, 0, 0, 0]
theorem tb_by : ByteL tb := by
  intro i
  unfold zz tb
  rcases (by omega : i = 0 ∨ i = 1 ∨ i = 2 ∨ i = 3 ∨ i = 4 ∨ i = 5 ∨ 6 ≤ i) with rfl | rfl | rfl | rfl | rfl | rfl | h
  · decide
  · decide
  · decide
  · decide
  · decide
  · decide
  · rw [List.getD_eq_getElem?_getD, List.getElem?_eq_none (by simpa using h)]; decide
theorem put7 : putB 7 0 (gE tb) (fun _ => 0) = tb := rfl
theorem gI_tb : gI tb = fun _ => 0 := by
  funext k
  unfold gI
  have : gM tb = 0 := rfl
  rw [this, if_neg (by simp)]
theorem ok_tb : OkG tb := by
  refine ⟨by decide, ?_, ?_⟩
  · rw [gI_tb]; rfl
  · rw [gI_tb]; rfl
theorem not_ok_nil : ¬ OkG [] := fun h => by
  have := h.1
  unfold gTot at this
  simp at this
theorem OwnB.other {w w' : World} {B R : Nat} {v : Value} {bs : List Int} (h : OwnB w B v bs) (ho : Only R w w') (hR : R < B) : OwnB w' B v bs := by
  refine World.ownsRow.kept (row := some R) h ⟨ho.os, ho.tape, ho.output, Nat.le_of_eq ho.size.symm, fun k _ hk => ho.block k (fun e => hk (by rw [e]))⟩ ?_
  cases hv : v.ownBlock with
  | none => exact Or.inl rfl
  | some g => exact Or.inr (fun e => by have := (World.ownsRow.lt h g hv).1; injection e with e; omega)
theorem EvsV.zero {w w' : World} {sv : Value} {E E' : Nat → Nat → Int} (h : EvsV w sv 0 E) : EvsV w' sv 0 E' := by
  obtain ⟨a, cap, rfl, h1, h2, -⟩ := h
  exact ⟨a, cap, rfl, h1, h2, fun h => absurd h (by omega)⟩
theorem EntsV.one {w : World} {B : Nat} {fr : Int} {sv : Value} {n : Nat} {E : Nat → Nat → Int} {I : Nat → Int} (h : EntAt w B 0 fr sv I) (hs : EvsV w sv n E) : EntsV w (.slice (some ⟨B, 0, none⟩) 1 1) 1 (fun _ => ⟨fr, n, E, I⟩) :=
  ⟨_, _, rfl, Nat.le_refl _, by unfold maxLen; omega, fun _ => ⟨B, 0, rfl, h.lt, fun i hi => by
    obtain rfl : i = 0 := by omega
    exact ⟨sv, h, hs⟩⟩⟩
end Go.Proofs.Ytembppihfcclcaa
