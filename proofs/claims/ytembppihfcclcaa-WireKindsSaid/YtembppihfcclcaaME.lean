/-
  Wire: the writer.
-/
import Derived.Test.YtembppihfcclcaaMD
import Derived.Laws.OwnMore
namespace Go.Proofs.Ytembppihfcclcaa
set_option linter.unusedVariables false
open Go.ChangeShapes Go.WideShapes Go.ChangeAt Go.RowKit

set_option linter.unusedSimpArgs false
/-- append to a row of the call's own: where the row lies behind it, and what it leaves. -/
structure Apd (v v' : Value) (w w' : World) : Prop where
  grown : w.grownBy w' v.ownBlock
  own : v'.ownBlock = v.ownBlock ∨ v'.ownBlock = some w.heap.size
theorem own_next {w w' : World} {B n : Nat} {v v' : Value} {xs news : List Value} (ty : TypeId) (hown : w.ownsRow B 5 1 v n xs) (ad : Addr) (m c : Nat) (hl : news.length = m) (hnews : ∀ j u, news[j]? = some u → w.cell? (ad.add j) = some u) (h1 : ∀ u ∈ news, u.oneCell' = true) (hbd : n + m ≤ 140737488355328)
    (hr : (Builtin.append_ #[28, 28] ty #[v, .slice (some ad) m c]).run Try.prog w = .ok v' w') : v'.ownBlock = v.ownBlock ∨ v'.ownBlock = some w.heap.size := by
  obtain ⟨i0, hi, hz0, hz1, hz2⟩ := info_parts info5
  rcases hown.2 with ⟨rfl, rfl⟩ | ⟨g, cap, cur, rfl, hbg, hg, hnc, hcm, hcs, htake⟩
  · by_cases hm : m = 0
    · subst hm
      have : v' = .slice none 0 0 := by
        have hn : news = [] := List.eq_nil_of_length_eq_zero hl
        have hr2 : (Builtin.append_ #[28, 28] ty #[.slice none 0 0, .slice (some ad) 0 c]).run Try.prog w = .ok (.slice none 0 0) w := by
          simp [Builtin.append_, run_underlying Try.underlying28, sizeOf, typeInfo, hi, Builtin.lenOf, Builtin.firstCells, loadCells, loadCellsFrom]
        rw [hr2] at hr
        have hq := hr.symm
        simp only [Result.ok.injEq] at hq
        exact hq.1
      exact Or.inl (by rw [this])
    · have hr2 := run_append_nil (P := Try.prog) w 28 ty 5 i0 (.int .u8 0) Try.underlying28 hi hz0 ad m c news (by rw [hz1]; omega) hnews (by omega) (by omega) (by rw [hz2]; omega)
      rw [hr2] at hr
      injection hr with h1 h2
      exact Or.inr (by rw [← h1]; rfl)
  · by_cases hroom : n + m ≤ cap
    · have hr2 := run_append_room (P := Try.prog) w 28 ty 5 i0 Try.underlying28 hi g n cap cur hg ad m c news (by rw [hz1]; omega) hnews h1 hroom (by rw [hz1, hcs]; omega)
      rw [hr2] at hr
      injection hr with h1 h2
      exact Or.inl (by rw [← h1]; rfl)
    · have holds : ∀ j u, xs[j]? = some u → w.cell? ((⟨g, 0, none⟩ : Addr).add j) = some u := hown.cells (g := g) rfl
      have hr2 := run_append_grow (P := Try.prog) w 28 ty 5 i0 (.int .u8 0) Try.underlying28 hi hz0 ⟨g, 0, none⟩ n cap xs (by rw [hz1]; exact hown.1) holds ad m c news (by rw [hz1]; omega) hnews (by omega) (by omega) (growslice_fits (by omega) (by rw [hz2]; omega))
      rw [hr2] at hr
      injection hr with h1 h2
      exact Or.inr (by rw [← h1]; rfl)
theorem run_app2 (ty : TypeId) (B : Nat) (v : Value) (bs ns : List Int) (w : World) (hown : OwnB w B v bs) (hB : B ≤ w.heap.size) (xa : Option Addr) (m c : Nat) (hm : ns.length = m) (hx : ∀ ad, xa = some ad → ∀ j u, (bv ns)[j]? = some u → w.cell? (ad.add j) = some u) (h0 : xa = none → m = 0) (hl : bs.length + m ≤ 140737488355328) :
    ∃ v' w', (Builtin.append_ #[28, 28] ty #[v, .slice xa m c]).run Try.prog w = .ok v' w' ∧ OwnB w' B v' (bs ++ ns) ∧ Apd v v' w w' := by
  obtain ⟨i0, hi, hz0, hz1, hz2⟩ := info_parts info5
  cases xa with
  | none =>
    have hm0 := h0 rfl
    subst hm0
    have hn : ns = [] := List.eq_nil_of_length_eq_zero hm
    subst hn
    refine ⟨v, w, ?_, by rw [List.append_nil]; exact hown, ⟨⟨rfl, rfl, rfl, Nat.le_refl _, fun _ _ _ => rfl⟩, Or.inl rfl⟩⟩
    rcases hown.2 with ⟨rfl, h0'⟩ | ⟨g, cap, cur, rfl, _, _, hnc, _⟩
    · simp [Builtin.append_, run_underlying Try.underlying28, sizeOf, typeInfo, hi, Builtin.lenOf, Builtin.firstCells]
    · simp [Builtin.append_, run_underlying Try.underlying28, sizeOf, typeInfo, hi, Builtin.lenOf, Builtin.firstCells, hnc, storeCells]
  | some ad =>
    have h1 : ∀ u ∈ bv ns, u.oneCell' = true := by
      intro u hu
      unfold bv at hu
      rw [List.mem_map] at hu
      obtain ⟨y, -, rfl⟩ := hu
      rfl
    obtain ⟨v', w', hr, h2, h3, -⟩ := run_append_own (P := Try.prog) w B 28 ty 5 i0 (.int .u8 0) 1 1 Try.underlying28 hi hz0 hz1 hz2 rfl (by decide) v bs.length (bv bs) hown ad m c (bv ns) (by rw [bv_len]; omega) (hx ad rfl) h1 (by unfold maxLen; omega) (by omega) hB
    refine ⟨v', w', hr, ?_, ⟨h3, own_next ty hown ad m c (by rw [bv_len]; omega) (hx ad rfl) h1 hl hr⟩⟩
    unfold OwnB
    rw [bv_append, List.length_append, hm]
    exact h2
theorem Apd.alloc {v v' : Value} {w w' : World} {o : Obj} (h : Apd v v' (w.alloc o) w') : w.grownBy w' v.ownBlock ∧ (v'.ownBlock = v.ownBlock ∨ v'.ownBlock = some (w.heap.size + 1)) := by
  refine ⟨⟨h.grown.os, h.grown.tape, h.grown.output, by have := h.grown.size; simp at this; omega, fun k hk hne => ?_⟩, ?_⟩
  · exact (h.grown.block k (by simp; omega) hne).trans (Below.heap_alloc w o k hk)
  · rcases h.own with h1 | h1
    · exact Or.inl h1
    · exact Or.inr (by rw [h1]; simp)
/-- append to a row of the call's own, with a tighter word on what it leaves. -/
theorem step_app2 {ops : Array Oper} {rest : List Oper} {o : Oper} {a : Act} {Q : Exit → Act → World → Prop} (hgd : o.guard = none) (s x : Operand)
    (ho : o.op = .call { callee := .builtin .append, args := #[s, x], argTypes := #[28, 28] })
    (B : Nat) (v : Value) (bs ns : List Int) (w : World) (hs : a.eval s = v) (hown : OwnB w B v bs) (hB : B ≤ w.heap.size) (xa : Option Addr) (m c : Nat) (hm : ns.length = m) (hx : a.eval x = .slice xa m c)
    (hxs : ∀ ad, xa = some ad → ∀ j u, (bv ns)[j]? = some u → w.cell? (ad.add j) = some u) (h0 : xa = none → m = 0)
    (hl : bs.length + m ≤ 140737488355328)
    (h : ∀ v' w', OwnB w' B v' (bs ++ ns) → Apd v v' w w' → wpList Try.prog ops Q rest (a.put o.dst v') w') : wpList Try.prog ops Q (o :: rest) a w := by
  refine wpList_plain hgd fun K hK => ?_
  obtain ⟨v', w', hr, h2, h3⟩ := run_app2 o.type B v bs ns w hown hB xa m c hm hxs h0 hl
  unfold Oper.wp execOp
  simp only [ho, resolve, invoke, builtin, Sem.run_bind, Sem.run_pure, Result.andThen_ok, List.map_toArray, List.map_cons, List.map_nil, hs, hx, hr]
  exact hK _ _ (h v' w' h2 h3)
/-- The writer at block R holds these bytes, in a row of its own from block R + 1 on. -/
structure WrAt (w : World) (R : Nat) (v : Value) (bs : List Int) : Prop where
  cell : w.cell? ⟨R, 0, none⟩ = some v
  fz : w.frozen? ⟨R, 0, none⟩ = false
  own : OwnB w (R + 1) v bs
/-- What the writer leaves: all but its own cell and its row. -/
structure Wrote (R : Nat) (v v' : Value) (w w' : World) : Prop where
  os : w'.os = w.os
  tape : w'.tape = w.tape
  output : w'.output = w.output
  size : w.heap.size ≤ w'.heap.size
  block : ∀ k, k < w.heap.size → k ≠ R → some k ≠ v.ownBlock → w'.heap[k]? = w.heap[k]?
  own : v'.ownBlock = v.ownBlock ∨ ∃ g, v'.ownBlock = some g ∧ w.heap.size ≤ g
theorem WrAt.lt {w : World} {R : Nat} {v : Value} {bs : List Int} (h : WrAt w R v bs) : R < w.heap.size := block_of_cell h.cell
theorem Wrote.refl (R : Nat) (v : Value) (w : World) : Wrote R v v w w := ⟨rfl, rfl, rfl, Nat.le_refl _, fun _ _ _ _ => rfl, Or.inl rfl⟩
theorem Wrote.trans {R : Nat} {v v' v'' : Value} {w w' w'' : World} (h : Wrote R v v' w w') (k : Wrote R v' v'' w' w'') : Wrote R v v'' w w'' := by
  refine ⟨k.os.trans h.os, k.tape.trans h.tape, k.output.trans h.output, Nat.le_trans h.size k.size, fun i hi hR hne => ?_, ?_⟩
  · refine (k.block i (by have := h.size; omega) hR ?_).trans (h.block i hi hR hne)
    rcases h.own with h1 | ⟨g, h1, h2⟩
    · rw [h1]; exact hne
    · rw [h1]; intro e; injection e with e; omega
  · have hs := h.size
    rcases k.own with k1 | ⟨g, k1, k2⟩
    · rcases h.own with h1 | ⟨g, h1, h2⟩
      · exact Or.inl (k1.trans h1)
      · exact Or.inr ⟨g, k1.trans h1, h2⟩
    · exact Or.inr ⟨g, k1, by omega⟩
theorem Wrote.below {R : Nat} {v v' : Value} {w w' : World} {bs : List Int} (h : Wrote R v v' w w') (hv : WrAt w R v bs) : Below R w w' :=
  ⟨h.os, h.tape, h.output, h.size, fun k hk => by
    refine h.block k (by have := hv.lt; omega) (by omega) (fun e => ?_)
    have := (World.ownsRow.lt hv.own k e.symm).1
    omega⟩
theorem WrAt.below {w w' : World} {R B : Nat} {v : Value} {bs : List Int} (h : WrAt w R v bs) (hb : Below B w w') (hs : w.heap.size ≤ B) : WrAt w' R v bs :=
  ⟨(World.cell?_of_block (a := ⟨R, 0, none⟩) (hb.block R (by have := h.lt; omega))).trans h.cell, (World.frozen?_of_block (a := ⟨R, 0, none⟩) (hb.block R (by have := h.lt; omega))).trans h.fz, h.own.below hb hs⟩
/-- Behind an append and the store into the writer's cell. -/
theorem WrAt.next {w w' : World} {o : Obj} {R : Nat} {v v' : Value} {bs ns : List Int} (h : WrAt w R v bs) (hO : OwnB w' (R + 1) v' (bs ++ ns)) (ha : Apd v v' (w.alloc o) w') :
    WrAt (w'.setCell ⟨R, 0, none⟩ v') R v' (bs ++ ns) ∧ Wrote R v v' w (w'.setCell ⟨R, 0, none⟩ v') ∧ w'.cell? ⟨R, 0, none⟩ = some v ∧ w'.frozen? ⟨R, 0, none⟩ = false := by
  obtain ⟨hg, ho⟩ := ha.alloc
  have hlt := h.lt
  have hne : some R ≠ v.ownBlock := fun e => by have := (World.ownsRow.lt h.own R e.symm).1; omega
  have hb := hg.block R hlt hne
  have hc : w'.cell? ⟨R, 0, none⟩ = some v := (World.cell?_of_block (a := ⟨R, 0, none⟩) hb).trans h.cell
  have hf : w'.frozen? ⟨R, 0, none⟩ = false := (World.frozen?_of_block (a := ⟨R, 0, none⟩) hb).trans h.fz
  refine ⟨⟨World.cell?_setCell_same _ _ _ hc, by rw [World.frozen?_setCell]; exact hf, hO.other ((Only.refl R w').setCell rfl v') (by omega)⟩, ⟨hg.os, hg.tape, hg.output, by simpa [World.setCell] using hg.size, fun k hk hR hn => (Below.heap_setCell _ _ _ _ (by show k ≠ R; omega)).trans (hg.block k hk hn), ?_⟩, hc, hf⟩
  rcases ho with h1 | h1
  · exact Or.inl h1
  · exact Or.inr ⟨_, h1, by omega⟩
/-- The same, with nothing laid ahead of the append. -/
theorem WrAt.next0 {w w' : World} {R : Nat} {v v' : Value} {bs ns : List Int} (h : WrAt w R v bs) (hO : OwnB w' (R + 1) v' (bs ++ ns)) (ha : Apd v v' w w') :
    WrAt (w'.setCell ⟨R, 0, none⟩ v') R v' (bs ++ ns) ∧ Wrote R v v' w (w'.setCell ⟨R, 0, none⟩ v') ∧ w'.cell? ⟨R, 0, none⟩ = some v ∧ w'.frozen? ⟨R, 0, none⟩ = false := by
  have hg := ha.grown
  have hlt := h.lt
  have hne : some R ≠ v.ownBlock := fun e => by have := (World.ownsRow.lt h.own R e.symm).1; omega
  have hb := hg.block R hlt hne
  have hc : w'.cell? ⟨R, 0, none⟩ = some v := (World.cell?_of_block (a := ⟨R, 0, none⟩) hb).trans h.cell
  have hf : w'.frozen? ⟨R, 0, none⟩ = false := (World.frozen?_of_block (a := ⟨R, 0, none⟩) hb).trans h.fz
  refine ⟨⟨World.cell?_setCell_same _ _ _ hc, by rw [World.frozen?_setCell]; exact hf, hO.other ((Only.refl R w').setCell rfl v') (by omega)⟩, ⟨hg.os, hg.tape, hg.output, by simpa [World.setCell] using hg.size, fun k hk hR hn => (Below.heap_setCell _ _ _ _ (by show k ≠ R; omega)).trans (hg.block k hk hn), ?_⟩, hc, hf⟩
  rcases ha.own with h1 | h1
  · exact Or.inl h1
  · exact Or.inr ⟨_, h1, by omega⟩
/-- A number's bytes, the least first; what is left of it. -/
def shN (n : Int) : Nat → Int
  | 0 => n
  | k + 1 => shN n k / 256
def leB (n : Int) : Nat → List Int
  | 0 => []
  | k + 1 => leB n k ++ [shN n k % 256]
theorem leB_len (n : Int) : ∀ k, (leB n k).length = k
  | 0 => rfl
  | k + 1 => by unfold leB; rw [List.length_append, leB_len n k]; rfl
theorem shN_bd (n : Int) (h : 0 ≤ n ∧ n < 18446744073709551616) : ∀ k, 0 ≤ shN n k ∧ shN n k < 18446744073709551616
  | 0 => h
  | k + 1 => by have := shN_bd n h k; unfold shN; omega
def NumPost (R : Nat) (v : Value) (w : World) (bs : List Int) (e : Ending) (w' : World) : Prop := e = .returned (.tuple #[]) ∧ ∃ v', WrAt w' R v' bs ∧ Wrote R v v' w w'
set_option maxHeartbeats 1000000 in
theorem num_any (R : Nat) (v : Value) (bs : List Int) (n : Int) (c : Nat) (w : World) (h : WrAt w R v bs) (hn : 0 ≤ n ∧ n < 18446744073709551616) (hc : c ≤ 8) (hl : bs.length ≤ 100000) :
    Calls Try.prog 33 #[.pointer (some ⟨R, 0, none⟩), .int .u64 n, .int .i64 (c : Int)] w (NumPost R v w (bs ++ leB n c)) := by
  have HW := Lib.hid h
  have HN := Lib.hid hn
  clear h hn
  go_enter Try.func33, Try.ntmps33
  go_wp2_with fail
  go_loopw [1, 7] (fun n' i wr => ∃ k : Nat, k ≤ c ∧ i = .int .i64 k ∧ n' = .int .u64 (shN n k) ∧ ∃ v', WrAt wr R v' (bs ++ leB n k) ∧ Wrote R v v' w wr) (fun _ i _ => c - (intOf i).toNat)
  case atStart => exact ⟨0, by omega, rfl, rfl, v, by simpa [leB] using HW.out, Wrote.refl R v w⟩
  case round =>
    obtain ⟨k, hk, rfl, rfl, v', hw, hwr⟩ := hrel
    have HW' := Lib.hid hw
    have HWr := Lib.hid hwr
    clear HW
    by_cases hlt : k < c
    · have c0 := hw.cell
      have f0 := hw.fz
      have hlt2 := hw.lt
      have HNx : Hid (bs ++ leB n (k + 1) = bs ++ leB n k ++ [shN n k % 256]) := Lib.hid (by rw [List.append_assoc]; rfl)
      have HSh : Hid (shN n (k + 1) = shN n k / 256) := Lib.hid rfl
      have hb := shN_bd n HN.out k
      have hll : (bs ++ leB n k).length ≤ 100008 := by rw [List.length_append, leB_len]; omega
      have c0a : ∀ o, (wr.alloc o).cell? ⟨R, 0, none⟩ = some v' := fun o => (World.cell?_of_block (Below.heap_alloc wr o R hlt2)).trans c0
      have HLL := Lib.hid hll
      clear hw hwr hll
      generalize shN n k = x at *
      generalize bs ++ leB n k = bs' at *
      go_wp2_with (at_builtin; refine step_app2 rfl (.tmp 13) (.tmp 16) rfl (R + 1) v' bs' [x % 256] _ rfl (HW'.out.own.below ((Below.refl wr.heap.size wr).alloc (Nat.le_refl _) (Obj.cells (bv [x % 256]).toArray 5)) (Nat.le_refl _)) (by simp; omega) (some ⟨wr.heap.size, 0, none⟩) 1 1 rfl rfl ?_ (by intro h; cases h) (by have := HLL.out; omega) ?_)
      · intro ad e j u hj
        injection e with e
        subst e
        rw [Go.WideShapes.add_plain, World.cell?_alloc_new, Nat.zero_add, ← hj]
        exact List.getElem?_toArray
      intro v2 w2 hO ha
      obtain ⟨L2, g2, cp2, rfl⟩ : ∃ L2 g2 cp2, v2 = .slice (some ⟨g2, 0, none⟩) L2 cp2 := by
        obtain ⟨g2, cp2, e, -⟩ := hO.form (by rw [List.length_append]; exact Nat.lt_of_lt_of_le (Nat.lt_succ_self _) (Nat.le_add_left _ _))
        exact ⟨_, g2, cp2, e⟩
      obtain ⟨hw3, hwr3, c3, f3⟩ := HW'.out.next hO ha
      rw [← HNx.out] at hw3
      have HW3 := Lib.hid hw3
      have HWr3 := Lib.hid (HWr.out.trans hwr3)
      clear hO ha hw3 hwr3 c0a c0 f0 HW' HWr
      go_wp2_with fail
      exact ⟨⟨k + 1, by omega, by go_num, by rw [HSh.out], _, HW3.out, HWr3.out⟩, by simp [intOf]; omega⟩
    · obtain rfl : k = c := by omega
      go_wp2_with fail
      refine bodyPost_end (results_none rfl _ _ _) rfl ?_
      exact ⟨rfl, v', hw, hwr⟩
theorem part_any (R : Nat) (v : Value) (bs : List Int) (has : Bool) (h p n : Int) (c : Nat) (w : World) (hw : WrAt w R v bs) (hn : has = true → 0 ≤ n ∧ n < 18446744073709551616) (hc : c ≤ 8) (hl : bs.length ≤ 100000) (hh : (bits .and .i64 h p == 0) = !has) :
    Calls Try.prog 34 #[.pointer (some ⟨R, 0, none⟩), .int .i64 h, .int .i64 p, .int .u64 n, .int .i64 (c : Int)] w (NumPost R v w (bs ++ if has then leB n c else [])) := by
  cases has
  · have hne : (bits .and .i64 h p != 0) = false := by rw [bne, hh]; rfl
    have HW := Lib.hid hw
    clear hh hw hn
    rw [if_neg (by decide), List.append_nil]
    go_enter Try.func34, Try.ntmps34
    go_wp2_with fail
    refine bodyPost_end (results_none rfl _ _ _) rfl ?_
    exact ⟨rfl, v, HW.out, Wrote.refl R v w⟩
  · have hne : (bits .and .i64 h p != 0) = true := by rw [bne, hh]; rfl
    have HW := Lib.hid hw
    have HN := Lib.hid hn
    clear hh hw hn
    rw [if_pos rfl]
    go_enter Try.func34, Try.ntmps34
    go_wp2_with fail
    refine (num_any R v bs n c w HW.out (HN.out (by first | rfl | trivial)) hc hl).mono ?_
    rintro e w2 ⟨rfl, hp⟩
    have HP := Lib.hid hp
    clear hp
    go_wp2_with fail
    refine bodyPost_end (results_none rfl _ _ _) rfl ?_
    exact ⟨rfl, HP.out⟩
theorem there_alloc_lit (c : Array Value) (T : TypeId) (w : World) (n : Nat) (hn : n ≤ c.size) : (w.alloc (Obj.cells c T)).there w.heap.size 0 n := fun j hj => by
  rw [Nat.zero_add, World.frozen?_alloc_new, World.cell?_alloc_new, Array.getElem?_eq_getElem (by omega)]
  exact ⟨rfl, rfl⟩
/-- An entry laid into a block that was just made: as a step of the walk. -/
theorem wpList_store_ent {ops : Array Oper} {rest : List Oper} {op : Oper} {a : Act} {Q : Exit → Act → World → Prop} (hgd : op.guard = none) (x y : Operand) (ho : op.op = .store 37 x y)
    (fr : Int) (sv : Value) (I : Nat → Int) (h1 : (entL fr sv I).toArray.all (·.oneCell') = true) (w : World) (B : Nat) (hB : w.heap.size = B) (hx : a.eval x = .pointer (some ⟨B, 0, none⟩)) (hy : a.eval y = .agg (entL fr sv I).toArray)
    (h : wpList Try.prog ops Q rest (a.put op.dst undef) (w.alloc (Obj.cells (entL fr sv I).toArray 37))) : wpList Try.prog ops Q (op :: rest) a (w.alloc (Obj.cells #[.int .i64 0, .slice none 0 0, .int .i8 0, .int .i8 0, .int .u8 0, .int .i8 0, .int .i8 0, .int .u8 0, .int .i8 0, .int .i8 0, .int .u8 0, .int .i8 0, .int .i8 0, .int .u8 0, .int .i8 0, .int .i8 0, .int .u8 0, .int .i8 0, .int .i8 0, .int .u8 0, .int .i8 0, .int .i8 0, .int .u8 0, .int .i8 0, .int .i8 0, .int .u8 0] 37)) := by
  subst hB
  refine wpList_store_mid hgd 37 x y ho w.heap.size 0 (entL fr sv I).toArray hx hy ?_ (by have e : (entL fr sv I).toArray.size = (entL fr sv I).length := List.size_toArray; rw [e]; exact size_ent _ _ _) h1 ?_
  · have e : (entL fr sv I).toArray.size = 26 := by rw [List.size_toArray, entL_len]
    rw [e]
    exact there_alloc_lit _ _ _ _ (by decide)
  · rw [show (entL fr sv I).toArray.toList = entL fr sv I from rfl, setCells_alloc, fill_all _ _ (by rw [entL_len]; rfl)]
    exact h
end Go.Proofs.Ytembppihfcclcaa
