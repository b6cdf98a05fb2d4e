/-
  Wire: the writer. Wire: the bytes of a message, in plain words; where Put stands.
-/
import Derived.Test.YtembppihfcclcaaMD
import Derived.Laws.OwnMore
import Derived.Laws.IdiomCopy
namespace Go.Proofs.Ytembppihfcclcaa
set_option linter.unusedVariables false
open Go.ChangeShapes Go.WideShapes Go.ChangeAt Go.RowKit

set_option linter.unusedSimpArgs false
/-- append to a row of the call's own: where the row lies behind it, and what it leaves. -/
structure Apd (v v' : Value) (w w' : World) : Prop where
  grown : w.grownBy w' v.ownBlock
  own : v'.ownBlock = v.ownBlock ∨ v'.ownBlock = some w.heap.size
theorem own_next {w w' : World} {B n : Nat} {v v' : Value} {xs news : List Value} (ty : TypeId) (hown : w.ownsRow B 5 1 v n xs) (ad : Addr) (m c : Nat) (hl : news.length = m) (hnews : ∀ j u, news[j]? = some u → w.cell? (ad.add j) = some u) (h1 : ∀ u ∈ news, u.oneCell' = true) (hbd : n + m ≤ 140737488355328)
    (hr : (Builtin.append_ #[28, 28] ty #[v, .slice (some ad) m c]).run Try.prog w = .ok v' w') : v'.ownBlock = v.ownBlock ∨ v'.ownBlock = some w.heap.size := by
  obtain ⟨i0, hi, hz0, hz1, hz2⟩ := info_parts info5
  rcases hown.2 with ⟨rfl, rfl⟩ | ⟨g, cap, cur, rfl, hbg, hg, hnc, hcm, hcs, htake⟩
  · by_cases hm : m = 0
    · subst hm
      have : v' = .slice none 0 0 := by
        have hn : news = [] := List.eq_nil_of_length_eq_zero hl
        have hr2 : (Builtin.append_ #[28, 28] ty #[.slice none 0 0, .slice (some ad) 0 c]).run Try.prog w = .ok (.slice none 0 0) w := by
          simp [Builtin.append_, run_underlying Try.underlying28, sizeOf, typeInfo, hi, Builtin.lenOf, Builtin.firstCells, loadCells, loadCellsFrom]
        rw [hr2] at hr
        have hq := hr.symm
        simp only [Result.ok.injEq] at hq
        exact hq.1
      exact Or.inl (by rw [this])
    · have hr2 := run_append_nil (P := Try.prog) w 28 ty 5 i0 (.int .u8 0) Try.underlying28 hi hz0 ad m c news (by rw [hz1]; omega) hnews (by omega) (by omega) (by rw [hz2]; omega)
      rw [hr2] at hr
      injection hr with h1 h2
      exact Or.inr (by rw [← h1]; rfl)
  · by_cases hroom : n + m ≤ cap
    · have hr2 := run_append_room (P := Try.prog) w 28 ty 5 i0 Try.underlying28 hi g n cap cur hg ad m c news (by rw [hz1]; omega) hnews h1 hroom (by rw [hz1, hcs]; omega)
      rw [hr2] at hr
      injection hr with h1 h2
      exact Or.inl (by rw [← h1]; rfl)
    · have holds : ∀ j u, xs[j]? = some u → w.cell? ((⟨g, 0, none⟩ : Addr).add j) = some u := hown.cells (g := g) rfl
      have hr2 := run_append_grow (P := Try.prog) w 28 ty 5 i0 (.int .u8 0) Try.underlying28 hi hz0 ⟨g, 0, none⟩ n cap xs (by rw [hz1]; exact hown.1) holds ad m c news (by rw [hz1]; omega) hnews (by omega) (by omega) (growslice_fits (by omega) (by rw [hz2]; omega))
      rw [hr2] at hr
      injection hr with h1 h2
      exact Or.inr (by rw [← h1]; rfl)
theorem run_app2 (ty : TypeId) (B : Nat) (v : Value) (bs ns : List Int) (w : World) (hown : OwnB w B v bs) (hB : B ≤ w.heap.size) (xa : Option Addr) (m c : Nat) (hm : ns.length = m) (hx : ∀ ad, xa = some ad → ∀ j u, (bv ns)[j]? = some u → w.cell? (ad.add j) = some u) (h0 : xa = none → m = 0) (hl : bs.length + m ≤ 140737488355328) :
    ∃ v' w', (Builtin.append_ #[28, 28] ty #[v, .slice xa m c]).run Try.prog w = .ok v' w' ∧ OwnB w' B v' (bs ++ ns) ∧ Apd v v' w w' := by
  obtain ⟨i0, hi, hz0, hz1, hz2⟩ := info_parts info5
  cases xa with
  | none =>
    have hm0 := h0 rfl
    subst hm0
    have hn : ns = [] := List.eq_nil_of_length_eq_zero hm
    subst hn
    refine ⟨v, w, ?_, by rw [List.append_nil]; exact hown, ⟨⟨rfl, rfl, rfl, Nat.le_refl _, fun _ _ _ => rfl⟩, Or.inl rfl⟩⟩
    rcases hown.2 with ⟨rfl, h0'⟩ | ⟨g, cap, cur, rfl, _, _, hnc, _⟩
    · simp [Builtin.append_, run_underlying Try.underlying28, sizeOf, typeInfo, hi, Builtin.lenOf, Builtin.firstCells]
    · simp [Builtin.append_, run_underlying Try.underlying28, sizeOf, typeInfo, hi, Builtin.lenOf, Builtin.firstCells, hnc, storeCells]
  | some ad =>
    have h1 : ∀ u ∈ bv ns, u.oneCell' = true := by
      intro u hu
      unfold bv at hu
      rw [List.mem_map] at hu
      obtain ⟨y, -, rfl⟩ := hu
      rfl
    obtain ⟨v', w', hr, h2, h3, -⟩ := run_append_own (P := Try.prog) w B 28 ty 5 i0 (.int .u8 0) 1 1 Try.underlying28 hi hz0 hz1 hz2 rfl (by decide) v bs.length (bv bs) hown ad m c (bv ns) (by rw [bv_len]; omega) (hx ad rfl) h1 (by unfold maxLen; omega) (by omega) hB
    refine ⟨v', w', hr, ?_, ⟨h3, own_next ty hown ad m c (by rw [bv_len]; omega) (hx ad rfl) h1 hl hr⟩⟩
    unfold OwnB
    rw [bv_append, List.length_append, hm]
    exact h2
theorem Apd.alloc {v v' : Value} {w w' : World} {o : Obj} (h : Apd v v' (w.alloc o) w') : w.grownBy w' v.ownBlock ∧ (v'.ownBlock = v.ownBlock ∨ v'.ownBlock = some (w.heap.size + 1)) := by
  refine ⟨⟨h.grown.os, h.grown.tape, h.grown.output, by have := h.grown.size; simp at this; omega, fun k hk hne => ?_⟩, ?_⟩
  · exact (h.grown.block k (by simp; omega) hne).trans (Below.heap_alloc w o k hk)
  · rcases h.own with h1 | h1
    · exact Or.inl h1
    · exact Or.inr (by rw [h1]; simp)
/-- append to a row of the call's own, with a tighter word on what it leaves. -/
theorem step_app2 {ops : Array Oper} {rest : List Oper} {o : Oper} {a : Act} {Q : Exit → Act → World → Prop} (hgd : o.guard = none) (s x : Operand)
    (ho : o.op = .call { callee := .builtin .append, args := #[s, x], argTypes := #[28, 28] })
    (B : Nat) (v : Value) (bs ns : List Int) (w : World) (hs : a.eval s = v) (hown : OwnB w B v bs) (hB : B ≤ w.heap.size) (xa : Option Addr) (m c : Nat) (hm : ns.length = m) (hx : a.eval x = .slice xa m c)
    (hxs : ∀ ad, xa = some ad → ∀ j u, (bv ns)[j]? = some u → w.cell? (ad.add j) = some u) (h0 : xa = none → m = 0)
    (hl : bs.length + m ≤ 140737488355328)
    (h : ∀ v' w', OwnB w' B v' (bs ++ ns) → Apd v v' w w' → wpList Try.prog ops Q rest (a.put o.dst v') w') : wpList Try.prog ops Q (o :: rest) a w := by
  refine wpList_plain hgd fun K hK => ?_
  obtain ⟨v', w', hr, h2, h3⟩ := run_app2 o.type B v bs ns w hown hB xa m c hm hxs h0 hl
  unfold Oper.wp execOp
  simp only [ho, resolve, invoke, builtin, Sem.run_bind, Sem.run_pure, Result.andThen_ok, List.map_toArray, List.map_cons, List.map_nil, hs, hx, hr]
  exact hK _ _ (h v' w' h2 h3)
/-- The writer at block R holds these bytes, in a row of its own from block R + 1 on. -/
structure WrAt (w : World) (R : Nat) (v : Value) (bs : List Int) : Prop where
  cell : w.cell? ⟨R, 0, none⟩ = some v
  fz : w.frozen? ⟨R, 0, none⟩ = false
  own : OwnB w (R + 1) v bs
/-- What the writer leaves: all but its own cell and its row. -/
structure Wrote (R : Nat) (v v' : Value) (w w' : World) : Prop where
  os : w'.os = w.os
  tape : w'.tape = w.tape
  output : w'.output = w.output
  size : w.heap.size ≤ w'.heap.size
  block : ∀ k, k < w.heap.size → k ≠ R → some k ≠ v.ownBlock → w'.heap[k]? = w.heap[k]?
  own : v'.ownBlock = v.ownBlock ∨ ∃ g, v'.ownBlock = some g ∧ w.heap.size ≤ g
theorem WrAt.lt {w : World} {R : Nat} {v : Value} {bs : List Int} (h : WrAt w R v bs) : R < w.heap.size := block_of_cell h.cell
theorem Wrote.refl (R : Nat) (v : Value) (w : World) : Wrote R v v w w := ⟨rfl, rfl, rfl, Nat.le_refl _, fun _ _ _ _ => rfl, Or.inl rfl⟩
theorem Wrote.trans {R : Nat} {v v' v'' : Value} {w w' w'' : World} (h : Wrote R v v' w w') (k : Wrote R v' v'' w' w'') : Wrote R v v'' w w'' := by
  refine ⟨k.os.trans h.os, k.tape.trans h.tape, k.output.trans h.output, Nat.le_trans h.size k.size, fun i hi hR hne => ?_, ?_⟩
  · refine (k.block i (by have := h.size; omega) hR ?_).trans (h.block i hi hR hne)
    rcases h.own with h1 | ⟨g, h1, h2⟩
    · rw [h1]; exact hne
    · rw [h1]; intro e; injection e with e; omega
  · have hs := h.size
    rcases k.own with k1 | ⟨g, k1, k2⟩
    · rcases h.own with h1 | ⟨g, h1, h2⟩
      · exact Or.inl (k1.trans h1)
      · exact Or.inr ⟨g, k1.trans h1, h2⟩
    · exact Or.inr ⟨g, k1, by omega⟩
theorem Wrote.below {R : Nat} {v v' : Value} {w w' : World} {bs : List Int} (h : Wrote R v v' w w') (hv : WrAt w R v bs) : Below R w w' :=
  ⟨h.os, h.tape, h.output, h.size, fun k hk => by
    refine h.block k (by have := hv.lt; omega) (by omega) (fun e => ?_)
    have := (World.ownsRow.lt hv.own k e.symm).1
    omega⟩
theorem WrAt.below {w w' : World} {R B : Nat} {v : Value} {bs : List Int} (h : WrAt w R v bs) (hb : Below B w w') (hs : w.heap.size ≤ B) : WrAt w' R v bs :=
  ⟨(World.cell?_of_block (a := ⟨R, 0, none⟩) (hb.block R (by have := h.lt; omega))).trans h.cell, (World.frozen?_of_block (a := ⟨R, 0, none⟩) (hb.block R (by have := h.lt; omega))).trans h.fz, h.own.below hb hs⟩
/-- Behind an append and the store into the writer's cell. -/
theorem WrAt.next {w w' : World} {o : Obj} {R : Nat} {v v' : Value} {bs ns : List Int} (h : WrAt w R v bs) (hO : OwnB w' (R + 1) v' (bs ++ ns)) (ha : Apd v v' (w.alloc o) w') :
    WrAt (w'.setCell ⟨R, 0, none⟩ v') R v' (bs ++ ns) ∧ Wrote R v v' w (w'.setCell ⟨R, 0, none⟩ v') ∧ w'.cell? ⟨R, 0, none⟩ = some v ∧ w'.frozen? ⟨R, 0, none⟩ = false := by
  obtain ⟨hg, ho⟩ := ha.alloc
  have hlt := h.lt
  have hne : some R ≠ v.ownBlock := fun e => by have := (World.ownsRow.lt h.own R e.symm).1; omega
  have hb := hg.block R hlt hne
  have hc : w'.cell? ⟨R, 0, none⟩ = some v := (World.cell?_of_block (a := ⟨R, 0, none⟩) hb).trans h.cell
  have hf : w'.frozen? ⟨R, 0, none⟩ = false := (World.frozen?_of_block (a := ⟨R, 0, none⟩) hb).trans h.fz
  refine ⟨⟨World.cell?_setCell_same _ _ _ hc, by rw [World.frozen?_setCell]; exact hf, hO.other ((Only.refl R w').setCell rfl v') (by omega)⟩, ⟨hg.os, hg.tape, hg.output, by simpa [World.setCell] using hg.size, fun k hk hR hn => (Below.heap_setCell _ _ _ _ (by show k ≠ R; omega)).trans (hg.block k hk hn), ?_⟩, hc, hf⟩
  rcases ho with h1 | h1
  · exact Or.inl h1
  · exact Or.inr ⟨_, h1, by omega⟩
/-- The same, with nothing laid ahead of the append. -/
theorem WrAt.next0 {w w' : World} {R : Nat} {v v' : Value} {bs ns : List Int} (h : WrAt w R v bs) (hO : OwnB w' (R + 1) v' (bs ++ ns)) (ha : Apd v v' w w') :
    WrAt (w'.setCell ⟨R, 0, none⟩ v') R v' (bs ++ ns) ∧ Wrote R v v' w (w'.setCell ⟨R, 0, none⟩ v') ∧ w'.cell? ⟨R, 0, none⟩ = some v ∧ w'.frozen? ⟨R, 0, none⟩ = false := by
  have hg := ha.grown
  have hlt := h.lt
  have hne : some R ≠ v.ownBlock := fun e => by have := (World.ownsRow.lt h.own R e.symm).1; omega
  have hb := hg.block R hlt hne
  have hc : w'.cell? ⟨R, 0, none⟩ = some v := (World.cell?_of_block (a := ⟨R, 0, none⟩) hb).trans h.cell
  have hf : w'.frozen? ⟨R, 0, none⟩ = false := (World.frozen?_of_block (a := ⟨R, 0, none⟩) hb).trans h.fz
  refine ⟨⟨World.cell?_setCell_same _ _ _ hc, by rw [World.frozen?_setCell]; exact hf, hO.other ((Only.refl R w').setCell rfl v') (by omega)⟩, ⟨hg.os, hg.tape, hg.output, by simpa [World.setCell] using hg.size, fun k hk hR hn => (Below.heap_setCell _ _ _ _ (by show k ≠ R; omega)).trans (hg.block k hk hn), ?_⟩, hc, hf⟩
  rcases ha.own with h1 | h1
  · exact Or.inl h1
  · exact Or.inr ⟨_, h1, by omega⟩
/-- A number's bytes, the least first; what is left of it. -/
def shN (n : Int) : Nat → Int
  | 0 => n
  | k + 1 => shN n k / 256
def leB (n : Int) : Nat → List Int
  | 0 => []
  | k + 1 => leB n k ++ [shN n k % 256]
theorem leB_len (n : Int) : ∀ k, (leB n k).length = k
  | 0 => rfl
  | k + 1 => by unfold leB; rw [List.length_append, leB_len n k]; rfl
theorem shN_bd (n : Int) (h : 0 ≤ n ∧ n < 18446744073709551616) : ∀ k, 0 ≤ shN n k ∧ shN n k < 18446744073709551616
  | 0 => h
  | k + 1 => by have := shN_bd n h k; unfold shN; omega
def NumPost (R : Nat) (v : Value) (w : World) (bs : List Int) (e : Ending) (w' : World) : Prop := e = .returned (.tuple #[]) ∧ ∃ v', WrAt w' R v' bs ∧ Wrote R v v' w w'
set_option maxHeartbeats 1000000 in
theorem num_any (R : Nat) (v : Value) (bs : List Int) (n : Int) (c : Nat) (w : World) (h : WrAt w R v bs) (hn : 0 ≤ n ∧ n < 18446744073709551616) (hc : c ≤ 8) (hl : bs.length ≤ 100000) :
    Calls Try.prog 33 #[.pointer (some ⟨R, 0, none⟩), .int .u64 n, .int .i64 (c : Int)] w (NumPost R v w (bs ++ leB n c)) := by
  have HW := Lib.hid h
  have HN := Lib.hid hn
  clear h hn
  go_enter Try.func33, Try.ntmps33
  go_wp2_with fail
  go_loopw [1, 7] (fun n' i wr => ∃ k : Nat, k ≤ c ∧ i = .int .i64 k ∧ n' = .int .u64 (shN n k) ∧ ∃ v', WrAt wr R v' (bs ++ leB n k) ∧ Wrote R v v' w wr) (fun _ i _ => c - (intOf i).toNat)
  case atStart => exact ⟨0, by omega, rfl, rfl, v, by simpa [leB] using HW.out, Wrote.refl R v w⟩
  case round =>
    obtain ⟨k, hk, rfl, rfl, v', hw, hwr⟩ := hrel
    have HW' := Lib.hid hw
    have HWr := Lib.hid hwr
    clear HW
    by_cases hlt : k < c
    · have c0 := hw.cell
      have f0 := hw.fz
      have hlt2 := hw.lt
      have HNx : Hid (bs ++ leB n (k + 1) = bs ++ leB n k ++ [shN n k % 256]) := Lib.hid (by rw [List.append_assoc]; rfl)
      have HSh : Hid (shN n (k + 1) = shN n k / 256) := Lib.hid rfl
      have hb := shN_bd n HN.out k
      have hll : (bs ++ leB n k).length ≤ 100008 := by rw [List.length_append, leB_len]; omega
      have c0a : ∀ o, (wr.alloc o).cell? ⟨R, 0, none⟩ = some v' := fun o => (World.cell?_of_block (Below.heap_alloc wr o R hlt2)).trans c0
      have HLL := Lib.hid hll
      clear hw hwr hll
      generalize shN n k = x at *
      generalize bs ++ leB n k = bs' at *
      go_wp2_with (at_builtin; refine step_app2 rfl (.tmp 13) (.tmp 16) rfl (R + 1) v' bs' [x % 256] _ rfl (HW'.out.own.below ((Below.refl wr.heap.size wr).alloc (Nat.le_refl _) (Obj.cells (bv [x % 256]).toArray 5)) (Nat.le_refl _)) (by simp; omega) (some ⟨wr.heap.size, 0, none⟩) 1 1 rfl rfl ?_ (by intro h; cases h) (by have := HLL.out; omega) ?_)
      · intro ad e j u hj
        injection e with e
        subst e
        rw [Go.WideShapes.add_plain, World.cell?_alloc_new, Nat.zero_add, ← hj]
        exact List.getElem?_toArray
      intro v2 w2 hO ha
      obtain ⟨L2, g2, cp2, rfl⟩ : ∃ L2 g2 cp2, v2 = .slice (some ⟨g2, 0, none⟩) L2 cp2 := by
        obtain ⟨g2, cp2, e, -⟩ := hO.form (by rw [List.length_append]; exact Nat.lt_of_lt_of_le (Nat.lt_succ_self _) (Nat.le_add_left _ _))
        exact ⟨_, g2, cp2, e⟩
      obtain ⟨hw3, hwr3, c3, f3⟩ := HW'.out.next hO ha
      rw [← HNx.out] at hw3
      have HW3 := Lib.hid hw3
      have HWr3 := Lib.hid (HWr.out.trans hwr3)
      clear hO ha hw3 hwr3 c0a c0 f0 HW' HWr
      go_wp2_with fail
      exact ⟨⟨k + 1, by omega, by go_num, by rw [HSh.out], _, HW3.out, HWr3.out⟩, by simp [intOf]; omega⟩
    · obtain rfl : k = c := by omega
      go_wp2_with fail
      refine bodyPost_end (results_none rfl _ _ _) rfl ?_
      exact ⟨rfl, v', hw, hwr⟩
theorem part_any (R : Nat) (v : Value) (bs : List Int) (has : Bool) (h p n : Int) (c : Nat) (w : World) (hw : WrAt w R v bs) (hn : has = true → 0 ≤ n ∧ n < 18446744073709551616) (hc : c ≤ 8) (hl : bs.length ≤ 100000) (hh : (bits .and .i64 h p == 0) = !has) :
    Calls Try.prog 34 #[.pointer (some ⟨R, 0, none⟩), .int .i64 h, .int .i64 p, .int .u64 n, .int .i64 (c : Int)] w (NumPost R v w (bs ++ if has then leB n c else [])) := by
  cases has
  · have hne : (bits .and .i64 h p != 0) = false := by rw [bne, hh]; rfl
    have HW := Lib.hid hw
    clear hh hw hn
    rw [if_neg (by decide), List.append_nil]
    go_enter Try.func34, Try.ntmps34
    go_wp2_with fail
    refine bodyPost_end (results_none rfl _ _ _) rfl ?_
    exact ⟨rfl, v, HW.out, Wrote.refl R v w⟩
  · have hne : (bits .and .i64 h p != 0) = true := by rw [bne, hh]; rfl
    have HW := Lib.hid hw
    have HN := Lib.hid hn
    clear hh hw hn
    rw [if_pos rfl]
    go_enter Try.func34, Try.ntmps34
    go_wp2_with fail
    refine (num_any R v bs n c w HW.out (HN.out (by first | rfl | trivial)) hc hl).mono ?_
    rintro e w2 ⟨rfl, hp⟩
    have HP := Lib.hid hp
    clear hp
    go_wp2_with fail
    refine bodyPost_end (results_none rfl _ _ _) rfl ?_
    exact ⟨rfl, HP.out⟩
theorem there_alloc_lit (c : Array Value) (T : TypeId) (w : World) (n : Nat) (hn : n ≤ c.size) : (w.alloc (Obj.cells c T)).there w.heap.size 0 n := fun j hj => by
  rw [Nat.zero_add, World.frozen?_alloc_new, World.cell?_alloc_new, Array.getElem?_eq_getElem (by omega)]
  exact ⟨rfl, rfl⟩
/-- An entry laid into a block that was just made: as a step of the walk. -/
theorem wpList_store_ent {ops : Array Oper} {rest : List Oper} {op : Oper} {a : Act} {Q : Exit → Act → World → Prop} (hgd : op.guard = none) (x y : Operand) (ho : op.op = .store 37 x y)
    (fr : Int) (sv : Value) (I : Nat → Int) (h1 : (entL fr sv I).toArray.all (·.oneCell') = true) (w : World) (B : Nat) (hB : w.heap.size = B) (hx : a.eval x = .pointer (some ⟨B, 0, none⟩)) (hy : a.eval y = .agg (entL fr sv I).toArray)
    (h : wpList Try.prog ops Q rest (a.put op.dst undef) (w.alloc (Obj.cells (entL fr sv I).toArray 37))) : wpList Try.prog ops Q (op :: rest) a (w.alloc (Obj.cells #[.int .i64 0, .slice none 0 0, .int .i8 0, .int .i8 0, .int .u8 0, .int .i8 0, .int .i8 0, .int .u8 0, .int .i8 0, .int .i8 0, .int .u8 0, .int .i8 0, .int .i8 0, .int .u8 0, .int .i8 0, .int .i8 0, .int .u8 0, .int .i8 0, .int .i8 0, .int .u8 0, .int .i8 0, .int .i8 0, .int .u8 0, .int .i8 0, .int .i8 0, .int .u8 0] 37)) := by
  subst hB
  refine wpList_store_mid hgd 37 x y ho w.heap.size 0 (entL fr sv I).toArray hx hy ?_ (by have e : (entL fr sv I).toArray.size = (entL fr sv I).length := List.size_toArray; rw [e]; exact size_ent _ _ _) h1 ?_
  · have e : (entL fr sv I).toArray.size = 26 := by rw [List.size_toArray, entL_len]
    rw [e]
    exact there_alloc_lit _ _ _ _ (by decide)
  · rw [show (entL fr sv I).toArray.toList = entL fr sv I from rfl, setCells_alloc, fill_all _ _ (by rw [entL_len]; rfl)]
    exact h
end Go.Proofs.Ytembppihfcclcaa

namespace Go.Proofs.Ytembppihfcclcaa
set_option linter.unusedVariables false
open Go.ChangeShapes Go.WideShapes Go.ChangeAt Go.RowKit

set_option linter.unusedSimpArgs false
def pt (M : Msg) (j : Nat) (n : Int) (c : Nat) : List Int := if hasB (M.F 0) j then leB n c else []
def inpsW (I : Nat → Int) : Nat → List Int
  | 0 => []
  | n + 1 => inpsW I n ++ inp3 I n
def entW (x : Ent) : List Int := putB x.fr x.n x.E x.I
def logW (D : Nat → Ent) : Nat → List Int
  | 0 => []
  | n + 1 => logW D n ++ leB (entW (D n)).length 2 ++ entW (D n)
def pS0 (M : Msg) : List Int := leB 0 4
def pS1 (M : Msg) : List Int := pS0 M ++ leB (M.F 0) 1
def pS2 (M : Msg) : List Int := pS1 M ++ leB (M.F 1) 1
def pS3 (M : Msg) : List Int := pS2 M ++ leB (M.F 2) 2
def pS4 (M : Msg) : List Int := pS3 M ++ leB (M.F 3) 2
def pS5 (M : Msg) : List Int := pS4 M ++ leB (M.F 4) 4
def pS6 (M : Msg) : List Int := pS5 M ++ pt M 0 (M.F 5) 1
def pS7 (M : Msg) : List Int := pS6 M ++ pt M 1 (M.F 6) 2
def pS8 (M : Msg) : List Int := pS7 M ++ pt M 2 (M.F 7) 4
def pS9 (M : Msg) : List Int := pS8 M ++ pt M 3 (M.F 8) 1
def pS10 (M : Msg) : List Int := pS9 M ++ pt M 4 (M.F 9) 2
def pS11 (M : Msg) : List Int := pS10 M ++ pt M 5 (M.F 10) 2
def pS12 (M : Msg) : List Int := pS11 M ++ pt M 6 (M.F 11) 4
def pS13 (M : Msg) : List Int := pS12 M ++ pt M 7 (M.F 12) 8
def pS14 (M : Msg) : List Int := pS13 M ++ pt M 8 M.ni 1
def pS15 (M : Msg) (n : Nat) : List Int := pS14 M ++ inpsW M.I n
def pS16 (M : Msg) : List Int := pS15 M M.ni ++ pt M 9 M.nl 1
def pS17 (M : Msg) (n : Nat) : List Int := pS16 M ++ logW M.D n
def pS18 (M : Msg) : List Int := pS17 M M.nl ++ pt M 10 M.d.length 1
def pS19 (M : Msg) : List Int := pS18 M ++ M.d
/-- A message's bytes behind their sum; with it. -/
def bodyM (M : Msg) : List Int := (pS19 M).drop 4
def putM (M : Msg) : List Int := leB (crc (bodyM M) (bodyM M).length) 4 ++ bodyM M
theorem putM_eq (M : Msg) : putM M = leB ((crc (bodyM M) (bodyM M).length : Nat) : Int) 4 ++ bodyM M := by rw [putM]
theorem pS19_eq (M : Msg) : pS19 M = leB 0 4 ++ bodyM M := by
  have h : (pS19 M).take 4 = leB 0 4 := by
    unfold pS19 pS18 pS17 pS16 pS15 pS14 pS13 pS12 pS11 pS10 pS9 pS8 pS7 pS6 pS5 pS4 pS3 pS2 pS1 pS0
    simp only [List.append_assoc]
    exact List.take_left' (by rw [leB_len])
  unfold bodyM
  rw [← h, List.take_append_drop]
theorem drop_pS19 (M : Msg) : (pS19 M).drop 4 = bodyM M := by rw [bodyM]
theorem pt_len (M : Msg) (j : Nat) (n : Int) (c : Nat) : (pt M j n c).length ≤ c := by
  unfold pt
  split
  · rw [leB_len]; exact Nat.le_refl _
  · exact Nat.zero_le _
theorem inpsW_len (I : Nat → Int) : ∀ n, (inpsW I n).length = 3 * n
  | 0 => rfl
  | n + 1 => by unfold inpsW; rw [List.length_append, inpsW_len I n]; rfl
theorem pS5_len (M : Msg) : (pS5 M).length = 14 := by
  unfold pS5 pS4 pS3 pS2 pS1 pS0
  simp only [List.length_append, leB_len]
theorem pS_lens (M : Msg) : (pS6 M).length ≤ 15 ∧ (pS7 M).length ≤ 17 ∧ (pS8 M).length ≤ 21 ∧ (pS9 M).length ≤ 22 ∧ (pS10 M).length ≤ 24 ∧ (pS11 M).length ≤ 26 ∧ (pS12 M).length ≤ 30 ∧ (pS13 M).length ≤ 38 ∧ (pS14 M).length ≤ 39 := by
  have h5 := pS5_len M
  have h6 : (pS6 M).length ≤ 15 := by have := pt_len M 0 (M.F 5) 1; unfold pS6; rw [List.length_append]; omega
  have h7 : (pS7 M).length ≤ 17 := by have := pt_len M 1 (M.F 6) 2; unfold pS7; rw [List.length_append]; omega
  have h8 : (pS8 M).length ≤ 21 := by have := pt_len M 2 (M.F 7) 4; unfold pS8; rw [List.length_append]; omega
  have h9 : (pS9 M).length ≤ 22 := by have := pt_len M 3 (M.F 8) 1; unfold pS9; rw [List.length_append]; omega
  have h10 : (pS10 M).length ≤ 24 := by have := pt_len M 4 (M.F 9) 2; unfold pS10; rw [List.length_append]; omega
  have h11 : (pS11 M).length ≤ 26 := by have := pt_len M 5 (M.F 10) 2; unfold pS11; rw [List.length_append]; omega
  have h12 : (pS12 M).length ≤ 30 := by have := pt_len M 6 (M.F 11) 4; unfold pS12; rw [List.length_append]; omega
  have h13 : (pS13 M).length ≤ 38 := by have := pt_len M 7 (M.F 12) 8; unfold pS13; rw [List.length_append]; omega
  have h14 : (pS14 M).length ≤ 39 := by have := pt_len M 8 M.ni 1; unfold pS14; rw [List.length_append]; omega
  exact ⟨h6, h7, h8, h9, h10, h11, h12, h13, h14⟩
theorem pS15_len (M : Msg) (n : Nat) (h : n ≤ 16) : (pS15 M n).length ≤ 87 := by
  have := (pS_lens M).2.2.2.2.2.2.2.2
  unfold pS15
  rw [List.length_append, inpsW_len]
  omega
theorem pS16_len (M : Msg) (h : M.ni ≤ 16) : (pS16 M).length ≤ 88 := by
  have := pS15_len M M.ni h
  have := pt_len M 9 M.nl 1
  unfold pS16
  rw [List.length_append]
  omega
theorem logOk_get {fr : Int} {D : Nat → Ent} : ∀ n, logOk fr D n = true → ∀ i, i < n → mayD (D i) = true ∧ (D i).fr = fr + i
  | 0, _, i, hi => by omega
  | n + 1, h, i, hi => by
    unfold logOk at h
    rw [Bool.and_eq_true, Bool.and_eq_true] at h
    by_cases e : i = n
    · subst e
      exact ⟨h.2.1, by simpa using h.2.2⟩
    · exact logOk_get n h.1 i (by omega)
theorem entW_len {x : Ent} (h : mayD x = true) : 6 ≤ (entW x).length ∧ (entW x).length ≤ 200 := put_len h
theorem logW_len {fr : Int} {D : Nat → Ent} {m : Nat} (h : logOk fr D m = true) : ∀ n, n ≤ m → (logW D n).length ≤ 202 * n
  | 0, _ => Nat.le_refl _
  | n + 1, hn => by
    have := logW_len h n (by omega)
    have := (entW_len (logOk_get m h n (by omega)).1).2
    unfold logW
    rw [List.length_append, List.length_append, leB_len]
    omega
/-- Where Put stands: its writer at block R holds these bytes; the world ahead of it was w1. -/
structure PS (w1 : World) (bs : List Int) (w : World) : Prop where
  ex : ∃ v, WrAt w w1.heap.size v bs
  bel : Below w1.heap.size w1 w
theorem num_ps {w1 w : World} {bs : List Int} (n : Int) (c : Nat) (h : PS w1 bs w) (hn : 0 ≤ n ∧ n < 18446744073709551616) (hc : c ≤ 8) (hl : bs.length ≤ 100000) :
    Calls Try.prog 33 #[.pointer (some ⟨w1.heap.size, 0, none⟩), .int .u64 n, .int .i64 (c : Int)] w fun e w' => e = .returned (.tuple #[]) ∧ Hid (PS w1 (bs ++ leB n c) w') := by
  obtain ⟨⟨v, hv⟩, hb⟩ := h
  refine (num_any _ v bs n c w hv hn hc hl).mono ?_
  rintro e w' ⟨rfl, v', h1, h2⟩
  exact ⟨rfl, Lib.hid ⟨⟨v', h1⟩, hb.trans (h2.below hv)⟩⟩
theorem part_ps {w1 w : World} {bs : List Int} (has : Bool) (h p n : Int) (c : Nat) (hP : PS w1 bs w) (hn : has = true → 0 ≤ n ∧ n < 18446744073709551616) (hc : c ≤ 8) (hl : bs.length ≤ 100000) (hh : (bits .and .i64 h p == 0) = !has) :
    Calls Try.prog 34 #[.pointer (some ⟨w1.heap.size, 0, none⟩), .int .i64 h, .int .i64 p, .int .u64 n, .int .i64 (c : Int)] w fun e w' => e = .returned (.tuple #[]) ∧ Hid (PS w1 (bs ++ if has then leB n c else []) w') := by
  obtain ⟨⟨v, hv⟩, hb⟩ := hP
  refine (part_any _ v bs has h p n c w hv hn hc hl hh).mono ?_
  rintro e w' ⟨rfl, v', h1, h2⟩
  exact ⟨rfl, Lib.hid ⟨⟨v', h1⟩, hb.trans (h2.below hv)⟩⟩
theorem PS.below {w1 w w' : World} {bs : List Int} {B : Nat} (h : PS w1 bs w) (hb : Below B w w') (hs : w.heap.size ≤ B) : PS w1 bs w' := by
  obtain ⟨⟨v, hv⟩, h2⟩ := h
  exact ⟨⟨v, hv.below hb hs⟩, h2.trans (hb.mono (by have := hv.lt; omega))⟩
theorem ps_new (w1 : World) : PS w1 [] (w1.alloc (Obj.cells #[.slice none 0 0] 68)) := by
  refine ⟨⟨.slice none 0 0, ?_, by rw [World.frozen?_alloc_new], World.ownsRow_nil _ _ _ _⟩, (Below.refl _ w1).alloc (Nat.le_refl _) _⟩
  rw [World.cell?_alloc_new]; rfl
/-- The message's numbers, as far as their kinds go. -/
structure MsgB (M : Msg) : Prop where
  f2 : 0 ≤ M.F 2 ∧ M.F 2 < 65536
  f3 : 0 ≤ M.F 3 ∧ M.F 3 < 65536
  f4 : 0 ≤ M.F 4 ∧ M.F 4 < 4294967296
  f11 : 0 ≤ M.F 11 ∧ M.F 11 < 4294967296
  f12 : 0 ≤ M.F 12 ∧ M.F 12 < 18446744073709551616
  b : ∀ i, i < M.ni → 0 ≤ M.I (i * 3 + 2) ∧ M.I (i * 3 + 2) ≤ 255
  xy : ∀ i, i < M.ni → (-128 ≤ M.I (i * 3) ∧ M.I (i * 3) ≤ 127) ∧ (-128 ≤ M.I (i * 3 + 1) ∧ M.I (i * 3 + 1) ≤ 127)
  e : ∀ i, i < M.nl → EntB (M.D i).fr (M.D i).n (M.D i).E (M.D i).I
  d : ByteL M.d
/-- What may be, part by part. -/
structure MayP (M : Msg) : Prop where
  p : 0 ≤ partsN (M.F 0)
  f1 : 0 ≤ M.F 1 ∧ M.F 1 < 12
  b0 : inB (hasB (M.F 0) 0) (M.F 5) 0 7 = true
  b1 : inB (hasB (M.F 0) 1) (M.F 6) 1 60000 = true
  b2 : inB (hasB (M.F 0) 2) (M.F 7) 0 1048576 = true
  b3 : inB (hasB (M.F 0) 3) (M.F 8) 0 9 = true
  b4 : inB (hasB (M.F 0) 4) (M.F 9) 0 65535 = true
  b5 : inB (hasB (M.F 0) 5) (M.F 10) (M.F 9 + 1) 65535 = true
  b6 : hasB (M.F 0) 6 = true ∨ M.F 11 = 0
  b7 : hasB (M.F 0) 7 = true ∨ M.F 12 = 0
  b8 : inB (hasB (M.F 0) 8) M.ni 1 16 = true
  b9 : inB (hasB (M.F 0) 9) M.nl 1 16 = true
  b10 : inB (hasB (M.F 0) 10) M.d.length 1 64 = true
  l : logOk (M.F 7) M.D M.nl = true
  i : inpAll M.I M.ni = true
theorem mayM_iff (M : Msg) : mayM M = true ↔ MayP M := by
  unfold mayM
  simp only [Bool.and_eq_true, Bool.or_eq_true, decide_eq_true_eq, beq_iff_eq]
  constructor
  · rintro ⟨h1, h2, h3, h4, h5, h6, h7, h8, h9, h10, h11, h12, h13, h14, h15, h16⟩
    exact ⟨h1, ⟨h2, h3⟩, h4, h5, h6, h7, h8, h9, h10, h11, h12, h13, h14, h15, h16⟩
  · rintro ⟨h1, ⟨h2, h3⟩, h4, h5, h6, h7, h8, h9, h10, h11, h12, h13, h14, h15, h16⟩
    exact ⟨h1, h2, h3, h4, h5, h6, h7, h8, h9, h10, h11, h12, h13, h14, h15, h16⟩
theorem parts_kind (k : Int) (h : 0 ≤ partsN k) : 1 ≤ k ∧ k ≤ 14 := by
  apply Classical.byContradiction
  intro hn
  have := parts_none k (by omega)
  omega
theorem inB_z {n lo hi : Int} (h : inB false n lo hi = true) : n = 0 := by unfold inB at h; simpa using h
/-- The numbers of one that may be. -/
theorem MayP.bd {M : Msg} (h : MayP M) : (1 ≤ M.F 0 ∧ M.F 0 ≤ 14) ∧ (0 ≤ M.F 5 ∧ M.F 5 ≤ 7) ∧ (0 ≤ M.F 6 ∧ M.F 6 ≤ 60000) ∧ (0 ≤ M.F 7 ∧ M.F 7 ≤ 1048576) ∧ (0 ≤ M.F 8 ∧ M.F 8 ≤ 9) ∧ (0 ≤ M.F 9 ∧ M.F 9 ≤ 65535) ∧ (0 ≤ M.F 10 ∧ M.F 10 ≤ 65535) ∧ M.ni ≤ 16 ∧ M.nl ≤ 16 ∧ M.d.length ≤ 64 := by
  have h9 := inB_bd h.b4 (by omega) (by omega)
  have a8 := inB_bd h.b8 (by omega) (by omega)
  have a9 := inB_bd h.b9 (by omega) (by omega)
  have a10 := inB_bd h.b10 (by omega) (by omega)
  exact ⟨parts_kind _ h.p, inB_bd h.b0 (by omega) (by omega), inB_bd h.b1 (by omega) (by omega), inB_bd h.b2 (by omega) (by omega), inB_bd h.b3 (by omega) (by omega), h9, inB_bd h.b5 (by omega) (by omega), by omega, by omega, by omega⟩
theorem pS18_ge (M : Msg) : 14 ≤ (pS18 M).length := by
  have := pS5_len M
  unfold pS18 pS17 pS16 pS15 pS14 pS13 pS12 pS11 pS10 pS9 pS8 pS7 pS6
  simp only [List.length_append]
  omega
theorem leB_by (n : Int) : ∀ c, ∀ x ∈ leB n c, 0 ≤ x ∧ x < 256
  | 0, x, h => by cases h
  | c + 1, x, h => by
    unfold leB at h
    rcases List.mem_append.1 h with h | h
    · exact leB_by n c x h
    · simp at h; omega
theorem pt_by (M : Msg) (j : Nat) (n : Int) (c : Nat) : ∀ x ∈ pt M j n c, 0 ≤ x ∧ x < 256 := by
  intro x h
  unfold pt at h
  split at h
  · exact leB_by n c x h
  · cases h
theorem inpsW_by {I : Nat → Int} : ∀ n, (∀ i, i < n → 0 ≤ I (i * 3 + 2) ∧ I (i * 3 + 2) ≤ 255) → ∀ x ∈ inpsW I n, 0 ≤ x ∧ x < 256
  | 0, _, x, h => by cases h
  | n + 1, hb, x, h => by
    unfold inpsW at h
    rcases List.mem_append.1 h with h | h
    · exact inpsW_by n (fun i hi => hb i (by omega)) x h
    · have := hb n (by omega)
      unfold inp3 at h
      simp at h
      omega
theorem logW_by {D : Nat → Ent} : ∀ n, (∀ i, i < n → EntB (D i).fr (D i).n (D i).E (D i).I) → ∀ x ∈ logW D n, 0 ≤ x ∧ x < 256
  | 0, _, x, h => by cases h
  | n + 1, hb, x, h => by
    unfold logW at h
    rcases List.mem_append.1 h with h | h
    · rcases List.mem_append.1 h with h | h
      · exact logW_by n (fun i hi => hb i (by omega)) x h
      · exact leB_by _ _ x h
    · exact byteL_iff.1 (put_by (hb n (by omega))) x h
theorem pS19_by {M : Msg} (hm : MsgB M) : ∀ x ∈ pS19 M, 0 ≤ x ∧ x < 256 := by
  intro x h
  unfold pS19 pS18 pS17 pS16 pS15 pS14 pS13 pS12 pS11 pS10 pS9 pS8 pS7 pS6 pS5 pS4 pS3 pS2 pS1 pS0 at h
  simp only [List.mem_append] at h
  rcases h with ((((((((((((((((((h | h) | h) | h) | h) | h) | h) | h) | h) | h) | h) | h) | h) | h) | h) | h) | h) | h) | h) | h
  all_goals first | exact leB_by _ _ x h | exact pt_by _ _ _ _ x h | exact inpsW_by _ hm.b x h | exact logW_by _ hm.e x h | exact byteL_iff.1 hm.d x h
theorem bodyM_by {M : Msg} (hm : MsgB M) : ByteL (bodyM M) := by
  rw [byteL_iff]
  intro x h
  exact pS19_by hm x (List.mem_of_mem_drop h)
theorem pS19_len (M : Msg) : (pS19 M).length = 4 + (bodyM M).length := by rw [pS19_eq, List.length_append, leB_len]
theorem putM_len (M : Msg) : (putM M).length = 4 + (bodyM M).length := by unfold putM; rw [List.length_append, leB_len]
theorem leB4 (n : Nat) : leB (n : Int) 4 = [(n : Int) % 256, (n : Int) / 256 % 256, (n : Int) / 65536 % 256, (n : Int) / 16777216 % 256] := by
  show [shN (n : Int) 0 % 256, shN (n : Int) 1 % 256, shN (n : Int) 2 % 256, shN (n : Int) 3 % 256] = _
  have h1 : shN (n : Int) 1 = (n : Int) / 256 := rfl
  have h2 : shN (n : Int) 2 = (n : Int) / 65536 := by show (n : Int) / 256 / 256 = _; omega
  have h3 : shN (n : Int) 3 = (n : Int) / 16777216 := by show (n : Int) / 256 / 256 / 256 = _; omega
  rw [h1, h2, h3]; rfl
theorem drop4_of (bs : List Int) (h : 4 ≤ bs.length) (a b c d : Int) : (((bs.set 0 a).set 1 b).set 2 c).set 3 d = [a, b, c, d] ++ bs.drop 4 := by
  rcases bs with _ | ⟨x, _ | ⟨y, _ | ⟨z, _ | ⟨u, r⟩⟩⟩⟩
  all_goals first | (simp at h; done) | rfl
theorem OwnB.lits {w : World} {B g n cap : Nat} {bs : List Int} (h : OwnB w B (.slice (some ⟨g, 0, none⟩) n cap) bs) (hn : 0 < bs.length) : n = bs.length ∧ B ≤ g ∧ g < w.heap.size ∧ bs.length ≤ cap ∧ cap ≤ maxLen := by
  obtain ⟨g', cap', e, h1, h2, h3, h4⟩ := h.form hn
  generalize bs.length = l at *
  injection e with e1 e2 e3
  injection e1 with e1
  injection e1 with e1 _ _
  subst e1 e2 e3
  exact ⟨rfl, h1, h2, h3, h4⟩
/-- The four bytes of the sum go over the first four. -/
theorem step_copy4 {ops : Array Oper} {rest : List Oper} {o : Oper} {a : Act} {Q : Exit → Act → World → Prop} (hgd : o.guard = none) (d s : Operand)
    (ho : o.op = .call { callee := .builtin .copy, args := #[d, s], argTypes := #[28, 28] })
    (B g L cp T : Nat) (w : World) (bs : List Int) (hown : OwnB w B (.slice (some ⟨g, 0, none⟩) L cp) bs) (hn : 4 ≤ bs.length) (hd : a.eval d = .slice (some ⟨g, 0, none⟩) L cp) (hs : a.eval s = .slice (some ⟨T, 0, none⟩) 4 4) (a0 a1 a2 a3 : Int) (hT : w.heap.size = T)
    (h : ∀ w', OwnB w' B (.slice (some ⟨g, 0, none⟩) L cp) ([a0, a1, a2, a3] ++ bs.drop 4) → Only g (w.alloc (Obj.cells #[.int .u8 a0, .int .u8 a1, .int .u8 a2, .int .u8 a3] 5)) w' → wpList Try.prog ops Q rest (a.put o.dst (.int .i64 4)) w') :
    wpList Try.prog ops Q (o :: rest) a (w.alloc (Obj.cells #[.int .u8 a0, .int .u8 a1, .int .u8 a2, .int .u8 a3] 5)) := by
  subst hT
  obtain ⟨g', cap', e, hBg, hgl, hbc, -⟩ := hown.form (by omega)
  injection e with e1 e2 e3
  injection e1 with e1
  injection e1 with e1 _ _
  subst e1 e2 e3
  have hown2 : OwnB (w.alloc (Obj.cells #[.int .u8 a0, .int .u8 a1, .int .u8 a2, .int .u8 a3] 5)) B (.slice (some ⟨g, 0, none⟩) bs.length cp) bs := World.ownsRow.alloc hown _
  have hr := run_copy_cells (P := Try.prog) (w.alloc (Obj.cells #[.int .u8 a0, .int .u8 a1, .int .u8 a2, .int .u8 a3] 5)) 28 28 o.type 5 g 0 bs.length cp ⟨w.heap.size, 0, none⟩ 4 4 [.int .u8 a0, .int .u8 a1, .int .u8 a2, .int .u8 a3] Try.underlying28 (by kernel_rfl) (by
      exact (Nat.min_eq_left hn).symm) (fun j v hj => by
      rw [Go.WideShapes.add_plain, World.cell?_alloc_new, Nat.zero_add, ← hj]; exact List.getElem?_toArray) (fun j hj => by
      have hj4 : j < 4 := hj
      rw [Nat.zero_add, hown2.cell j (by omega)]; rfl) (fun j hj => by rw [Nat.zero_add]; exact World.ownsRow.frozenAt hown2 _) (fun v hv => by
      simp only [List.mem_cons, List.not_mem_nil, or_false] at hv
      rcases hv with rfl | rfl | rfl | rfl <;> rfl)
  generalize w.alloc (Obj.cells #[.int .u8 a0, .int .u8 a1, .int .u8 a2, .int .u8 a3] 5) = W at *
  refine wpList_plain hgd fun K hK => ?_
  unfold Oper.wp execOp
  simp only [ho, resolve, invoke, builtin, Sem.run_bind, Sem.run_pure, Result.andThen_ok, List.map_toArray, List.map_cons, List.map_nil, hs, hd, hr]
  refine hK _ _ (h _ ?_ ?_)
  · have h0 := hown2.stored (by omega) 0 a0
    have h1 := h0.stored (by rw [List.length_set]; omega) 1 a1
    have h2 := h1.stored (by rw [List.length_set, List.length_set]; omega) 2 a2
    have h3 := h2.stored (by rw [List.length_set, List.length_set, List.length_set]; omega) 3 a3
    rw [drop4_of bs hn] at h3
    exact h3
  · exact ((((Only.refl g W).setCell (p := ⟨g, 0, none⟩) rfl (.int .u8 a0)).setCell (p := ⟨g, 1, none⟩) rfl (.int .u8 a1)).setCell (p := ⟨g, 2, none⟩) rfl (.int .u8 a2)).setCell (p := ⟨g, 3, none⟩) rfl (.int .u8 a3)
end Go.Proofs.Ytembppihfcclcaa
