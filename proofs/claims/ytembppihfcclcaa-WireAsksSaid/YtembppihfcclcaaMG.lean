/-
  Wire: Put.
-/
import Derived.Test.YtembppihfcclcaaG12x
import Derived.Deep.RegionHeld3
namespace Go.Proofs.Ytembppihfcclcaa
set_option linter.unusedVariables false
open Go.ChangeShapes Go.WideShapes Go.ChangeAt Go.RowKit

set_option linter.unusedSimpArgs false
theorem data_cells {w1 w6 : World} {a3 : Option Addr} {d : List Int} (h : 0 < d.length → ∃ b o, a3 = some ⟨b, o, none⟩ ∧ b < w1.heap.size ∧ BytesAt w1 b o d) (hb : Below w1.heap.size w1 w6) :
    (∀ ad, a3 = some ad → ∀ j u, (bv d)[j]? = some u → w6.cell? (ad.add j) = some u) ∧ (a3 = none → d.length = 0) := by
  constructor
  · intro ad e j u hj
    have hjl : j < d.length := by have := (List.getElem?_eq_some_iff.1 hj).1; rwa [bv_len] at this
    obtain ⟨b, o, h1, h2, h3⟩ := h (by omega)
    rw [e] at h1
    injection h1 with h1
    subst h1
    have hc := h3 j hjl
    rw [Addr.add_lit, (World.cell?_of_block (a := ⟨b, o + j, none⟩) (hb.block b h2)), hc, ← hj]
    unfold bv
    rw [List.getElem?_map, List.getElem?_eq_getElem hjl, List.getD_eq_getElem?_getD, List.getElem?_eq_getElem hjl]
    rfl
  · intro e
    apply Classical.byContradiction
    intro hn
    obtain ⟨b, o, h1, -⟩ := h (by omega)
    rw [e] at h1
    cases h1
theorem body_bytes {w : World} {B g L cp m c : Nat} {x y : List Int} (e1 : x = leB 0 4 ++ y) (h : OwnB w B (.slice (some ⟨g, 0, none⟩) L cp) x) (hm : m = y.length) (hc : m ≤ c) (hcm : c ≤ maxLen) (hg : g < w.heap.size) :
    BytesV w (.slice (some ⟨g, 4, none⟩) m c) y := by
  subst hm
  refine ⟨_, c, rfl, hc, hcm, fun _ => ⟨g, 4, rfl, hg, fun i hi => ?_⟩⟩
  have hl : x.length = 4 + y.length := by rw [e1, List.length_append, leB_len]
  have hc := h.cell (4 + i) (by omega)
  have e : zz x (4 + i) = zz y i := by rw [e1]; exact zz_app_r _ _ _ _ (by rw [leB_len])
  refine hc.trans ?_
  show some (Value.int .u8 (zz x (4 + i))) = some (Value.int .u8 (zz y i))
  rw [e]
/-- An input's three cells. -/
def SC (b : Nat) (x y z : Int) (w : World) : Prop := w.cell? ⟨b, 0, none⟩ = some (.int .i8 x) ∧ w.cell? ⟨b, 1, none⟩ = some (.int .i8 y) ∧ w.cell? ⟨b, 2, none⟩ = some (.int .u8 z)
theorem sC_drew {b : Nat} {x y z : Int} {w : World} (h : SC b x y z w) : SC b x y z w.drew := h
theorem sC_block {b : Nat} {x y z : Int} {w w' : World} (k : w'.heap[b]? = w.heap[b]?) (h : SC b x y z w) : SC b x y z w' :=
  ⟨(World.cell?_of_block (a := ⟨b, 0, none⟩) k).trans h.1, (World.cell?_of_block (a := ⟨b, 1, none⟩) k).trans h.2.1, (World.cell?_of_block (a := ⟨b, 2, none⟩) k).trans h.2.2⟩
theorem sC_alloc {b : Nat} {x y z : Int} {w : World} (h : SC b x y z w) (o : Obj) : SC b x y z (w.alloc o) := sC_block (Below.heap_alloc w o b (block_of_cell h.1)) h
theorem own_ad {w : World} {B : Nat} {v : Value} {bs : List Int} (h : OwnB w B v bs) (o : Obj) : OwnB (w.alloc o).drew B v bs :=
  h.below (((Below.refl w.heap.size w).alloc (Nat.le_refl _) o).drew) (Nat.le_refl _)
theorem news_ad (w : World) (ns : List Int) : ∀ ad, some (⟨w.heap.size, 0, none⟩ : Addr) = some ad → ∀ j u, (bv ns)[j]? = some u → (w.alloc (Obj.cells (bv ns).toArray 5)).drew.cell? (ad.add j) = some u := by
  intro ad e j u hj
  injection e with e
  subst e
  show (w.alloc (Obj.cells (bv ns).toArray 5)).cell? _ = _
  rw [Go.WideShapes.add_plain, World.cell?_alloc_new, Nat.zero_add, ← hj]
  exact List.getElem?_toArray
/-- The message's data cell. -/
def SD (b : Nat) (v : Value) (w : World) : Prop := w.cell? ⟨b, 15, none⟩ = some v
theorem ps_reg0 {w1 w3 w' : World} {v v' : Value} {bs ns : List Int} (hv : WrAt w3 w1.heap.size v bs) (hb : Below w1.heap.size w1 w3) (hO : OwnB w' (w1.heap.size + 1) v' (bs ++ ns)) (ha : Apd v v' w3.drew w') :
    WrAt (w'.setCell ⟨w1.heap.size, 0, none⟩ v') w1.heap.size v' (bs ++ ns) ∧ Below w1.heap.size w1 (w'.setCell ⟨w1.heap.size, 0, none⟩ v') ∧ w'.cell? ⟨w1.heap.size, 0, none⟩ = some v ∧ w'.frozen? ⟨w1.heap.size, 0, none⟩ = false ∧
    (∀ k, k < w1.heap.size → w'.heap[k]? = w1.heap[k]?) ∧ (∀ k, k < w1.heap.size → (w'.setCell ⟨w1.heap.size, 0, none⟩ v').heap[k]? = w1.heap[k]?) := by
  have hd : Below w3.heap.size w3 w3.drew := (Below.refl _ w3).drew
  have hv2 : WrAt w3.drew w1.heap.size v bs := hv.below hd (Nat.le_refl _)
  obtain ⟨h1, h2, h3, h4⟩ := hv2.next0 hO ha
  have hlt := hv.lt
  have hB : Below w1.heap.size w1 (w'.setCell ⟨w1.heap.size, 0, none⟩ v') := (hb.trans (hd.mono hb.size)).trans (h2.below hv2)
  refine ⟨h1, hB, h3, h4, fun k hk => ?_, fun k hk => hB.block k hk⟩
  refine (ha.grown.block k (by show k < w3.heap.size; omega) (fun e => ?_)).trans (hb.block k hk)
  have := (World.ownsRow.lt hv.own k e.symm).1
  omega
theorem ps_reg {w1 w3 w' : World} {v v' : Value} {bs ns : List Int} {O : Obj} (hv : WrAt w3 w1.heap.size v bs) (hb : Below w1.heap.size w1 w3) (hO : OwnB w' (w1.heap.size + 1) v' (bs ++ ns)) (ha : Apd v v' (w3.alloc O).drew w') :
    PS w1 (bs ++ ns) (w'.setCell ⟨w1.heap.size, 0, none⟩ v') ∧ w'.cell? ⟨w1.heap.size, 0, none⟩ = some v ∧ w'.frozen? ⟨w1.heap.size, 0, none⟩ = false ∧
    (∀ k, k < w3.heap.size → k ≠ w1.heap.size → some k ≠ v.ownBlock → w'.heap[k]? = w3.heap[k]?) ∧ (∀ k, k < w3.heap.size → k ≠ w1.heap.size → some k ≠ v.ownBlock → (w'.setCell ⟨w1.heap.size, 0, none⟩ v').heap[k]? = w3.heap[k]?) := by
  have hd : Below w3.heap.size w3 w3.drew := (Below.refl _ w3).drew
  have hv2 : WrAt w3.drew w1.heap.size v bs := hv.below hd (Nat.le_refl _)
  have ha2 : Apd v v' (w3.drew.alloc O) w' := ha
  obtain ⟨h1, h2, h3, h4⟩ := hv2.next hO ha2
  obtain ⟨hg, -⟩ := ha2.alloc
  exact ⟨⟨⟨v', h1⟩, (hb.trans (hd.mono hb.size)).trans (h2.below hv2)⟩, h3, h4, fun k hk _ hne => hg.block k hk hne, fun k hk hR hne => (h2.block k hk hR hne)⟩
/-- append of bytes, in a region that draws its order. -/
theorem step_appR {ops : Array Oper} {op : Oper} {a : Act} {w : World} {K : Act → World → Prop} {Q : Exit → Act → World → Prop} {E : Prop} (hg : op.guard = none)
    (s x : Operand) (ho : op.op = Op.call { callee := Callee.builtin Builtin.append, args := #[s, x], argTypes := #[28, 28] })
    (B : Nat) (v : Value) (bs ns : List Int) (hown : OwnB w B v bs) (hB : B ≤ w.heap.size) (xa : Option Addr) (m c : Nat) (hm : ns.length = m) (hs : a.eval s = v) (hx : a.eval x = .slice xa m c)
    (hxs : ∀ ad, xa = some ad → ∀ j u, (bv ns)[j]? = some u → w.cell? (ad.add j) = some u) (h0 : xa = none → m = 0) (hl : bs.length + m ≤ 140737488355328)
    (h : ∀ v' w', OwnB w' B v' (bs ++ ns) → Apd v v' w w' → K (a.put op.dst v') w') :
    if Region.wanted op (yielded ops a.tmps) = true then Oper.wp Try.prog op a w K Q else E := by
  have hw : Region.wanted op (yielded ops a.tmps) = true := by simp [Region.wanted, hg]
  rw [if_pos hw]
  obtain ⟨v', w', hr, h2, h3⟩ := run_app2 op.type B v bs ns w hown hB xa m c hm hxs h0 hl
  unfold Oper.wp execOp
  simp only [ho, resolve, invoke, builtin, Sem.run_bind, Sem.run_pure, Result.andThen_ok, List.map_toArray, List.map_cons, List.map_nil, hs, hx, hr]
  exact h v' w' h2 h3
set_option maxRecDepth 100000 in
theorem putM_no (M : Msg) (iv lv dv : Value) (w : World) (hr : RowsV w iv lv dv M) (hno : mayM M = false) :
    Calls Try.prog 14 #[.agg (msgL M.F iv lv dv).toArray] w fun e w' => e = .returned (.tuple #[.slice none 0 0, .int .i64 1]) ∧ Below w.heap.size w w' := by
  have HA := Lib.hid (msgAt_new M.F iv lv dv 30 w)
  have HB := Lib.hid ((Below.refl w.heap.size w).alloc (Nat.le_refl _) (Obj.cells (msgL M.F iv lv dv).toArray 30))
  have HRows := Lib.hid (hr.below HB.out (Nat.le_refl _))
  clear hr
  go_enter Try.func14, Try.ntmps14
  go_wp2_with (refine wpList_load_g (by rfl) 30 _ rfl w.heap.size 0 rfl _ _ HA.out.range Try.underlying30 rfl (size_msg _ _ _ _) ?_)
  refine (mayM_any M iv lv dv _ HRows.out).mono ?_
  rintro e w2 ⟨rfl, hb2⟩
  have HB2 := Lib.hid (HB.out.trans (hb2.mono HB.out.size))
  clear hb2
  rw [hno]
  go_wp2_with fail
  go_ret2
  exact ⟨rfl, HB2.out⟩
def PutPost (M : Msg) (B : Nat) (e : Ending) (w' : World) : Prop :=
  (1200 < (putM M).length ∧ e = .returned (.tuple #[.slice none 0 0, .int .i64 4])) ∨
  ((putM M).length ≤ 1200 ∧ ∃ v, e = .returned (.tuple #[v, .int .i64 0]) ∧ OwnB w' B v (putM M))
set_option maxRecDepth 100000 in
set_option maxHeartbeats 8000000 in
theorem putM_yes (M : Msg) (iv lv dv : Value) (w : World) (hr : RowsV w iv lv dv M) (hm : MsgB M) (hyes : mayM M = true) :
    Calls Try.prog 14 #[.agg (msgL M.F iv lv dv).toArray] w fun e w' => PutPost M w.heap.size e w' ∧ Below w.heap.size w w' := by
  have HM := Lib.hid hm
  have hmp := (mayM_iff M).1 hyes
  obtain ⟨hF0, hF5, hF6, hF7, hF8, hF9, hF10, hni, hnl, hnd⟩ := hmp.bd
  have hF1 := hmp.f1
  have hF2 := hm.f2
  have hF3 := hm.f3
  have hF4 := hm.f4
  have hF11 := hm.f11
  have hF12 := hm.f12
  have HMP := Lib.hid hmp
  have HP : Hid (0 ≤ partsN (M.F 0)) := Lib.hid hmp.p
  clear hm hmp
  have HA := Lib.hid (msgAt_new M.F iv lv dv 30 w)
  have HB := Lib.hid ((Below.refl w.heap.size w).alloc (Nat.le_refl _) (Obj.cells (msgL M.F iv lv dv).toArray 30))
  have HRows := Lib.hid (hr.below HB.out (Nat.le_refl _))
  clear hr
  go_enter Try.func14, Try.ntmps14
  go_wp2_with (refine wpList_load_g (by rfl) 30 _ rfl w.heap.size 0 rfl _ _ HA.out.range Try.underlying30 rfl (size_msg _ _ _ _) ?_)
  refine (mayM_any M iv lv dv _ HRows.out).mono ?_
  rintro e w1 ⟨rfl, hb2⟩
  replace HRows := Lib.hid (HRows.out.below hb2 (Nat.le_refl _))
  replace HA := Lib.hid (HA.out.block (hb2.block _ HA.out.lt))
  replace HB := Lib.hid (HB.out.trans (hb2.mono HB.out.size))
  clear hb2
  rw [hyes]
  clear hyes
  have hlt0 := HA.out.lt
  have HPS := Lib.hid (ps_new w1)
  have c0 := (HA.out.block (HPS.out.bel.block w.heap.size hlt0)).c0
  go_wp2_with fail
  clear c0
  generalize hW0 : w1.alloc (Obj.cells #[.slice none 0 0] 68) = w2 at *
  clear hW0
  refine (parts_any (M.F 0) _).mono ?_
  rintro e w2' ⟨rfl, rfl⟩
  have A0 : Hid ((bits .and .i64 (partsN (M.F 0)) 1 == 0) = !hasB (M.F 0) 0) := Lib.hid (has_and (M.F 0) HP.out 0)
  have A1 : Hid ((bits .and .i64 (partsN (M.F 0)) 2 == 0) = !hasB (M.F 0) 1) := Lib.hid (has_and (M.F 0) HP.out 1)
  have A2 : Hid ((bits .and .i64 (partsN (M.F 0)) 4 == 0) = !hasB (M.F 0) 2) := Lib.hid (has_and (M.F 0) HP.out 2)
  have A3 : Hid ((bits .and .i64 (partsN (M.F 0)) 8 == 0) = !hasB (M.F 0) 3) := Lib.hid (has_and (M.F 0) HP.out 3)
  have A4 : Hid ((bits .and .i64 (partsN (M.F 0)) 16 == 0) = !hasB (M.F 0) 4) := Lib.hid (has_and (M.F 0) HP.out 4)
  have A5 : Hid ((bits .and .i64 (partsN (M.F 0)) 32 == 0) = !hasB (M.F 0) 5) := Lib.hid (has_and (M.F 0) HP.out 5)
  have A6 : Hid ((bits .and .i64 (partsN (M.F 0)) 64 == 0) = !hasB (M.F 0) 6) := Lib.hid (has_and (M.F 0) HP.out 6)
  have A7 : Hid ((bits .and .i64 (partsN (M.F 0)) 128 == 0) = !hasB (M.F 0) 7) := Lib.hid (has_and (M.F 0) HP.out 7)
  have A8 : Hid ((bits .and .i64 (partsN (M.F 0)) 256 == 0) = !hasB (M.F 0) 8) := Lib.hid (has_and (M.F 0) HP.out 8)
  have A9 : Hid ((bits .and .i64 (partsN (M.F 0)) 512 == 0) = !hasB (M.F 0) 9) := Lib.hid (has_and (M.F 0) HP.out 9)
  have A10 : Hid ((bits .and .i64 (partsN (M.F 0)) 1024 == 0) = !hasB (M.F 0) 10) := Lib.hid (has_and (M.F 0) HP.out 10)
  have HL := Lib.hid (And.intro (pS5_len M) (pS_lens M))
  generalize partsN (M.F 0) = h at *
  go_wp2_with fail
  refine (num_ps 0 4 HPS.out (by omega) (by omega) (by decide)).mono ?_
  rintro e w' ⟨rfl, hp⟩
  replace HPS : Hid (PS w1 (pS0 M) w') := hp
  clear hp
  have c0 := (HA.out.block (HPS.out.bel.block w.heap.size hlt0)).c0
  go_wp2_with fail
  refine (num_ps (M.F 0) 1 HPS.out (by omega) (by omega) (by unfold pS0; simp only [List.length_append, leB_len]; omega)).mono ?_
  rintro e w' ⟨rfl, hp⟩
  replace HPS : Hid (PS w1 (pS1 M) w') := hp
  clear hp
  clear c0
  have c1 := (HA.out.block (HPS.out.bel.block w.heap.size hlt0)).c1
  go_wp2_with fail
  refine (num_ps (M.F 1) 1 HPS.out (by omega) (by omega) (by unfold pS1 pS0; simp only [List.length_append, leB_len]; omega)).mono ?_
  rintro e w' ⟨rfl, hp⟩
  replace HPS : Hid (PS w1 (pS2 M) w') := hp
  clear hp
  clear c1
  have c2 := (HA.out.block (HPS.out.bel.block w.heap.size hlt0)).c2
  go_wp2_with fail
  refine (num_ps (M.F 2) 2 HPS.out (by omega) (by omega) (by unfold pS2 pS1 pS0; simp only [List.length_append, leB_len]; omega)).mono ?_
  rintro e w' ⟨rfl, hp⟩
  replace HPS : Hid (PS w1 (pS3 M) w') := hp
  clear hp
  clear c2
  have c3 := (HA.out.block (HPS.out.bel.block w.heap.size hlt0)).c3
  go_wp2_with fail
  refine (num_ps (M.F 3) 2 HPS.out (by omega) (by omega) (by unfold pS3 pS2 pS1 pS0; simp only [List.length_append, leB_len]; omega)).mono ?_
  rintro e w' ⟨rfl, hp⟩
  replace HPS : Hid (PS w1 (pS4 M) w') := hp
  clear hp
  clear c3
  have c4 := (HA.out.block (HPS.out.bel.block w.heap.size hlt0)).c4
  go_wp2_with fail
  refine (num_ps (M.F 4) 4 HPS.out (by omega) (by omega) (by unfold pS4 pS3 pS2 pS1 pS0; simp only [List.length_append, leB_len]; omega)).mono ?_
  rintro e w' ⟨rfl, hp⟩
  replace HPS : Hid (PS w1 (pS5 M) w') := hp
  clear hp
  clear c4
  have c5 := (HA.out.block (HPS.out.bel.block w.heap.size hlt0)).c5
  go_wp2_with fail
  refine (part_ps (hasB (M.F 0) 0) h 1 (M.F 5) 1 HPS.out (fun _ => by omega) (by omega) (by have := HL.out.1; omega) A0.out).mono ?_
  rintro e w' ⟨rfl, hp⟩
  replace HPS : Hid (PS w1 (pS6 M) w') := hp
  clear hp
  clear c5
  have c6 := (HA.out.block (HPS.out.bel.block w.heap.size hlt0)).c6
  go_wp2_with fail
  refine (part_ps (hasB (M.F 0) 1) h 2 (M.F 6) 2 HPS.out (fun _ => by omega) (by omega) (by have := HL.out.2.1; omega) A1.out).mono ?_
  rintro e w' ⟨rfl, hp⟩
  replace HPS : Hid (PS w1 (pS7 M) w') := hp
  clear hp
  clear c6
  have c7 := (HA.out.block (HPS.out.bel.block w.heap.size hlt0)).c7
  go_wp2_with fail
  refine (part_ps (hasB (M.F 0) 2) h 4 (M.F 7) 4 HPS.out (fun _ => by omega) (by omega) (by have := HL.out.2.2.1; omega) A2.out).mono ?_
  rintro e w' ⟨rfl, hp⟩
  replace HPS : Hid (PS w1 (pS8 M) w') := hp
  clear hp
  clear c7
  have c8 := (HA.out.block (HPS.out.bel.block w.heap.size hlt0)).c8
  go_wp2_with fail
  refine (part_ps (hasB (M.F 0) 3) h 8 (M.F 8) 1 HPS.out (fun _ => by omega) (by omega) (by have := HL.out.2.2.2.1; omega) A3.out).mono ?_
  rintro e w' ⟨rfl, hp⟩
  replace HPS : Hid (PS w1 (pS9 M) w') := hp
  clear hp
  clear c8
  have c9 := (HA.out.block (HPS.out.bel.block w.heap.size hlt0)).c9
  go_wp2_with fail
  refine (part_ps (hasB (M.F 0) 4) h 16 (M.F 9) 2 HPS.out (fun _ => by omega) (by omega) (by have := HL.out.2.2.2.2.1; omega) A4.out).mono ?_
  rintro e w' ⟨rfl, hp⟩
  replace HPS : Hid (PS w1 (pS10 M) w') := hp
  clear hp
  clear c9
  have c10 := (HA.out.block (HPS.out.bel.block w.heap.size hlt0)).c10
  go_wp2_with fail
  refine (part_ps (hasB (M.F 0) 5) h 32 (M.F 10) 2 HPS.out (fun _ => by omega) (by omega) (by have := HL.out.2.2.2.2.2.1; omega) A5.out).mono ?_
  rintro e w' ⟨rfl, hp⟩
  replace HPS : Hid (PS w1 (pS11 M) w') := hp
  clear hp
  clear c10
  have c11 := (HA.out.block (HPS.out.bel.block w.heap.size hlt0)).c11
  go_wp2_with fail
  refine (part_ps (hasB (M.F 0) 6) h 64 (M.F 11) 4 HPS.out (fun _ => by omega) (by omega) (by have := HL.out.2.2.2.2.2.2.1; omega) A6.out).mono ?_
  rintro e w' ⟨rfl, hp⟩
  replace HPS : Hid (PS w1 (pS12 M) w') := hp
  clear hp
  clear c11
  have c12 := (HA.out.block (HPS.out.bel.block w.heap.size hlt0)).c12
  go_wp2_with fail
  refine (part_ps (hasB (M.F 0) 7) h 128 (M.F 12) 8 HPS.out (fun _ => by omega) (by omega) (by have := HL.out.2.2.2.2.2.2.2.1; omega) A7.out).mono ?_
  rintro e w' ⟨rfl, hp⟩
  replace HPS : Hid (PS w1 (pS13 M) w') := hp
  clear hp
  clear c12
  obtain ⟨⟨a1, cap1, rfl, hn1, hm1, hi1⟩, ⟨a2, cap2, rfl, hn2, hm2, hi2⟩, ⟨a3, cap3, rfl, hn3, hm3, hi3⟩⟩ := HRows.out
  unfold maxLen at hm1 hm2 hm3
  have HI1 := Lib.hid hi1
  have HI2 := Lib.hid hi2
  have HI3 := Lib.hid hi3
  clear hi1 hi2 hi3
  have c13 := (HA.out.block (HPS.out.bel.block w.heap.size hlt0)).c13
  go_wp2_with fail
  refine (part_ps (hasB (M.F 0) 8) h 256 M.ni 1 HPS.out (fun _ => by omega) (by omega) (by have := HL.out.2.2.2.2.2.2.2.2.1; omega) A8.out).mono ?_
  rintro e w' ⟨rfl, hp⟩
  replace HPS : Hid (PS w1 (pS14 M) w') := hp
  clear hp
  clear c13
  have c13 := (HA.out.block (HPS.out.bel.block w.heap.size hlt0)).c13
  go_wp2_with fail
  clear c13
  have HNI : Hid (M.ni ≤ 16) := Lib.hid hni
  generalize hgn : M.ni = n at *
  have HGN := Lib.hid hgn
  clear hgn
  go_loopw [105] (fun i wr => ∃ k : Nat, k ≤ n ∧ i = .int .i64 k ∧ PS w1 (pS15 M k) wr) (fun i _ => n - (intOf i).toNat)
  case atStart => exact ⟨0, by omega, rfl, by simpa [pS15, inpsW] using HPS.out⟩
  case round =>
    obtain ⟨k, hk, rfl, hps⟩ := hrel
    clear HPS
    have HPS := Lib.hid hps
    clear hps
    by_cases hlt : k < n
    · obtain ⟨b, o, rfl, hbl, hin⟩ := HI1.out (by omega)
      have hsr := hin.block (HPS.out.bel.block b hbl)
      have d0 := hsr.x k hlt
      have d1 := hsr.y k hlt
      have d2 := hsr.z k hlt
      have hki : (k : Int) < (n : Int) := by omega
      clear hin hsr
      have HNx : Hid (pS15 M (k + 1) = pS15 M k ++ [IntKind.u8.wrap (M.I (k * 3)), IntKind.u8.wrap (M.I (k * 3 + 1)), M.I (k * 3 + 2)]) := Lib.hid (by unfold pS15; rw [List.append_assoc]; rfl)
      have HLk := Lib.hid (pS15_len M k (by have := HNI.out; omega))
      generalize pS15 M k = bs at *
      generalize M.I (k * 3) = x at *
      generalize M.I (k * 3 + 1) = y at *
      generalize M.I (k * 3 + 2) = z at *
      go_wp2_with fail
      have hWr := HPS.out.ex
      obtain ⟨v, hv⟩ := hWr
      have hbel := HPS.out.bel
      have hlt3 := hv.lt
      have hI3 : ∀ j u, #[Value.int .i8 x, .int .i8 y, .int .u8 z][j]? = some u → (wr.alloc (Obj.cells #[.int .i8 x, .int .i8 y, .int .u8 z] 34)).cell? ⟨wr.heap.size, j, none⟩ = some u := fun j u hj => by rw [World.cell?_alloc_new]; exact hj
      have i0 := hI3 0 _ rfl
      have i1 := hI3 1 _ rfl
      have i2 := hI3 2 _ rfl
      have hb3 := (Below.refl wr.heap.size wr).alloc (Nat.le_refl _) (Obj.cells #[.int .i8 x, .int .i8 y, .int .u8 z] 34)
      have hv3 := hv.below hb3 (Nat.le_refl _)
      have hbel3 := hbel.trans (hb3.mono hbel.size)
      have hs3 : (wr.alloc (Obj.cells #[.int .i8 x, .int .i8 y, .int .u8 z] 34)).heap.size = wr.heap.size + 1 := by simp
      have hown7 : ∀ k, v.ownBlock = some k → k < wr.heap.size := fun k hk => (World.ownsRow.lt hv.own k hk).2
      have HOwn := Lib.hid hown7
      clear hb3 hv hbel hI3 hown7 d0 d1 d2
      generalize wr.alloc (Obj.cells #[.int .i8 x, .int .i8 y, .int .u8 z] 34) = w3 at *
      have HV3 := Lib.hid hv3
      have HBel := Lib.hid hbel3
      have HS3 := Lib.hid hs3
      have cR := hv3.cell
      have HLt3 := Lib.hid hlt3
      clear hv3 hbel3 hs3 hlt3 HPS
      generalize wr.heap.size = T7 at *
      have hC3 : SC T7 x y z w3 := ⟨i0, i1, i2⟩
      have cRa : ∀ o, (w3.alloc o).cell? ⟨w1.heap.size, 0, none⟩ = some v := fun o => (World.cell?_of_block (Below.heap_alloc w3 o _ HV3.out.lt)).trans cR
      refine wp_region_held (S := SC T7 x y z) (by kernel_rfl) ?_
      change wpAnyH _ _ _ _ _ _ _ _ (World.drew _)
      have hS := sC_drew hC3
      refine wpAnyH_take (i := 0) (v := ?_) rfl (by kernel_rfl) (by kernel_rfl) (by kernel_rfl) (fun _ _ _ h => h) (Or.inl ⟨by rfl, ?_⟩) hS ?_
      rotate_left 1
      · rintro w ⟨d0, d1, d2⟩; go_simp; try with_reducible rfl
      refine wpAnyH_take (i := 1) (v := ?_) rfl (by kernel_rfl) (by kernel_rfl) (by kernel_rfl) (fun _ _ _ h => h) (Or.inl ⟨by rfl, ?_⟩) hS ?_
      rotate_left 1
      · rintro w ⟨d0, d1, d2⟩; go_simp; try with_reducible rfl
      refine wpAnyH_take (i := 2) (v := ?_) rfl (by kernel_rfl) (by kernel_rfl) (by kernel_rfl) (fun _ _ _ h => h) (Or.inl ⟨by rfl, ?_⟩) hS ?_
      rotate_left 1
      · rintro w ⟨d0, d1, d2⟩; go_simp; try with_reducible rfl
      refine wpAnyH_take (i := 3) (v := ?_) rfl (by kernel_rfl) (by kernel_rfl) (by kernel_rfl) (fun _ _ _ h => h) (Or.inl ⟨by rfl, ?_⟩) hS ?_
      rotate_left 1
      · rintro w ⟨d0, d1, d2⟩; go_simp; try with_reducible rfl
      refine wpAnyH_take (i := 5) (v := ?_) rfl (by kernel_rfl) (by kernel_rfl) (by kernel_rfl) (fun _ _ _ h => h) (Or.inl ⟨by rfl, ?_⟩) hS ?_
      rotate_left 1
      · rintro w ⟨d0, d1, d2⟩; go_simp; try with_reducible rfl
      refine wpAnyH_take (i := 6) (v := ?_) rfl (by kernel_rfl) (by kernel_rfl) (by kernel_rfl) (fun _ _ _ h => h) (Or.inl ⟨by rfl, ?_⟩) hS ?_
      rotate_left 1
      · rintro w ⟨d0, d1, d2⟩; go_simp; try with_reducible rfl
      refine wpAnyH_take (i := 7) (v := ?_) rfl (by kernel_rfl) (by kernel_rfl) (by kernel_rfl) (fun _ _ _ h => h) (Or.inl ⟨by rfl, ?_⟩) hS ?_
      rotate_left 1
      · rintro w ⟨d0, d1, d2⟩; go_simp; try with_reducible rfl
      refine wpAnyH_take (i := 8) (v := ?_) rfl (by kernel_rfl) (by kernel_rfl) (by kernel_rfl) (fun _ _ _ h => h) (Or.inl ⟨by rfl, ?_⟩) hS ?_
      rotate_left 1
      · rintro w ⟨d0, d1, d2⟩; go_simp; try with_reducible rfl
      refine wpAnyH_take (i := 9) (v := ?_) rfl (by kernel_rfl) (by kernel_rfl) (by kernel_rfl) (fun _ _ _ h => h) (Or.inl ⟨by rfl, ?_⟩) hS ?_
      rotate_left 1
      · rintro w ⟨d0, d1, d2⟩; go_simp; try with_reducible rfl
      refine wpAnyH_take (i := 10) (v := ?_) rfl (by kernel_rfl) (by kernel_rfl) (by kernel_rfl) (fun _ _ _ h => h) (Or.inl ⟨by rfl, ?_⟩) hS ?_
      rotate_left 1
      · rintro w ⟨d0, d1, d2⟩; go_simp; try with_reducible rfl
      refine wpAnyH_take (i := 11) (v := ?_) rfl (by kernel_rfl) (by kernel_rfl) (by kernel_rfl) (fun _ _ _ h => h) (Or.inl ⟨by rfl, ?_⟩) hS ?_
      rotate_left 1
      · rintro w ⟨d0, d1, d2⟩; go_simp; try with_reducible rfl
      refine wpAnyH_take (i := 12) (v := ?_) rfl (by kernel_rfl) (by kernel_rfl) (by kernel_rfl) (fun _ _ _ h => h) (Or.inl ⟨by rfl, ?_⟩) hS ?_
      rotate_left 1
      · rintro w ⟨d0, d1, d2⟩; go_simp; try with_reducible rfl
      refine wpAnyH_ready (rs := [4, 13]) (by kernel_rfl) (by simp) ?_
      refine AllReadyH.cons rfl (fun K hK => ?_) (AllReadyH.cons rfl (fun K hK => ?_) AllReadyH.nil)
      · skip
        go_simp
        refine hK.out _ _ hS (fun hS => ?_)
        clear hK K
        refine wpAnyH_ready (rs := [13]) (by kernel_rfl) (by simp) ?_
        refine AllReadyH.cons rfl (fun K hK => ?_) AllReadyH.nil
        go_simp
        refine hK.out _ _ (sC_drew (sC_alloc hC3 (Obj.cells #[Value.int .u8 (IntKind.u8.wrap x), .int .u8 (IntKind.u8.wrap y), .int .u8 z] 5))) (fun hS => ?_)
        clear hK K
        refine wpAnyH_ready (rs := [14]) (by kernel_rfl) (by simp) ?_
        refine AllReadyH.cons rfl (fun K hK => ?_) AllReadyH.nil
        refine step_appR rfl (.tmp 113) (.tmp 122) rfl (w1.heap.size + 1) v bs [IntKind.u8.wrap x, IntKind.u8.wrap y, z] (own_ad HV3.out.own (Obj.cells #[Value.int .u8 (IntKind.u8.wrap x), .int .u8 (IntKind.u8.wrap y), .int .u8 z] 5)) (by have := HS3.out; have := HLt3.out; simp; omega) (some ⟨w3.heap.size, 0, none⟩) 3 3 rfl (by simp [Act.eval, Act.put]) (by simp [Act.eval, Act.put]) (news_ad w3 _) (by intro h; cases h) (by have := HLk.out; omega) ?_
        intro v' w' hO ha
        obtain ⟨L2, g2, cp2, rfl⟩ : ∃ L2 g2 cp2, v' = .slice (some ⟨g2, 0, none⟩) L2 cp2 := by
          obtain ⟨g2, cp2, e, -⟩ := hO.form (by rw [List.length_append]; simp)
          exact ⟨_, g2, cp2, e⟩
        obtain ⟨hps, hcR, hfR, hk7, hk7'⟩ := ps_reg HV3.out HBel.out hO ha
        have hC4 := sC_block (hk7 T7 (by have := HS3.out; omega) (by have := HLt3.out; omega) (fun e => by have := HOwn.out T7 e.symm; omega)) hC3
        have hC5 := sC_block (hk7' T7 (by have := HS3.out; omega) (by have := HLt3.out; omega) (fun e => by have := HOwn.out T7 e.symm; omega)) hC3
        rw [← HNx.out] at hps
        have HPS := Lib.hid hps
        clear hO ha hps hk7 hk7' cR cRa
        refine hK.out _ _ hC4 (fun hS => ?_)
        clear hK K
        refine wpAnyH_take (i := 15) (v := ?_) rfl (by kernel_rfl) (by kernel_rfl) (by kernel_rfl) (fun _ _ _ h => h) (Or.inl ⟨by rfl, ?_⟩) hS ?_
        rotate_left 1
        · rintro w ⟨d0, d1, d2⟩; go_simp; try with_reducible rfl
        refine wpAnyH_take (i := 16) (v := ?_) rfl (by kernel_rfl) (by kernel_rfl) (by kernel_rfl) (fun _ _ _ h => h) (Or.inl ⟨by rfl, ?_⟩) hS ?_
        rotate_left 1
        · rintro w ⟨d0, d1, d2⟩; go_simp; try with_reducible rfl
        refine wpAnyH_ready (rs := [17]) (by kernel_rfl) (by simp) ?_
        refine AllReadyH.cons rfl (fun K hK => ?_) AllReadyH.nil
        go_simp
        refine hK.out _ _ hC5 (fun hS => ?_)
        clear hK K
        refine wpAnyH_done (by kernel_rfl) ?_ _
        clear hS hC4 hC5 hC3 hcR hfR i0 i1 i2
        go_wp2_with fail
        exact ⟨⟨k + 1, by omega, by go_num, HPS.out⟩, by simp [intOf]; omega⟩
      · skip
        go_simp
        refine hK.out _ _ (sC_drew (sC_alloc hC3 (Obj.cells #[Value.int .u8 (IntKind.u8.wrap x), .int .u8 (IntKind.u8.wrap y), .int .u8 z] 5))) (fun hS => ?_)
        clear hK K
        refine wpAnyH_ready (rs := [4]) (by kernel_rfl) (by simp) ?_
        refine AllReadyH.cons rfl (fun K hK => ?_) AllReadyH.nil
        go_simp
        refine hK.out _ _ hS (fun hS => ?_)
        clear hK K
        refine wpAnyH_ready (rs := [14]) (by kernel_rfl) (by simp) ?_
        refine AllReadyH.cons rfl (fun K hK => ?_) AllReadyH.nil
        refine step_appR rfl (.tmp 113) (.tmp 122) rfl (w1.heap.size + 1) v bs [IntKind.u8.wrap x, IntKind.u8.wrap y, z] (own_ad HV3.out.own (Obj.cells #[Value.int .u8 (IntKind.u8.wrap x), .int .u8 (IntKind.u8.wrap y), .int .u8 z] 5)) (by have := HS3.out; have := HLt3.out; simp; omega) (some ⟨w3.heap.size, 0, none⟩) 3 3 rfl (by simp [Act.eval, Act.put]) (by simp [Act.eval, Act.put]) (news_ad w3 _) (by intro h; cases h) (by have := HLk.out; omega) ?_
        intro v' w' hO ha
        obtain ⟨L2, g2, cp2, rfl⟩ : ∃ L2 g2 cp2, v' = .slice (some ⟨g2, 0, none⟩) L2 cp2 := by
          obtain ⟨g2, cp2, e, -⟩ := hO.form (by rw [List.length_append]; simp)
          exact ⟨_, g2, cp2, e⟩
        obtain ⟨hps, hcR, hfR, hk7, hk7'⟩ := ps_reg HV3.out HBel.out hO ha
        have hC4 := sC_block (hk7 T7 (by have := HS3.out; omega) (by have := HLt3.out; omega) (fun e => by have := HOwn.out T7 e.symm; omega)) hC3
        have hC5 := sC_block (hk7' T7 (by have := HS3.out; omega) (by have := HLt3.out; omega) (fun e => by have := HOwn.out T7 e.symm; omega)) hC3
        rw [← HNx.out] at hps
        have HPS := Lib.hid hps
        clear hO ha hps hk7 hk7' cR cRa
        refine hK.out _ _ hC4 (fun hS => ?_)
        clear hK K
        refine wpAnyH_take (i := 15) (v := ?_) rfl (by kernel_rfl) (by kernel_rfl) (by kernel_rfl) (fun _ _ _ h => h) (Or.inl ⟨by rfl, ?_⟩) hS ?_
        rotate_left 1
        · rintro w ⟨d0, d1, d2⟩; go_simp; try with_reducible rfl
        refine wpAnyH_take (i := 16) (v := ?_) rfl (by kernel_rfl) (by kernel_rfl) (by kernel_rfl) (fun _ _ _ h => h) (Or.inl ⟨by rfl, ?_⟩) hS ?_
        rotate_left 1
        · rintro w ⟨d0, d1, d2⟩; go_simp; try with_reducible rfl
        refine wpAnyH_ready (rs := [17]) (by kernel_rfl) (by simp) ?_
        refine AllReadyH.cons rfl (fun K hK => ?_) AllReadyH.nil
        go_simp
        refine hK.out _ _ hC5 (fun hS => ?_)
        clear hK K
        refine wpAnyH_done (by kernel_rfl) ?_ _
        clear hS hC4 hC5 hC3 hcR hfR i0 i1 i2
        go_wp2_with fail
        exact ⟨⟨k + 1, by omega, by go_num, HPS.out⟩, by simp [intOf]; omega⟩
    · obtain rfl : k = n := by omega
      have hgn := HGN.out
      subst hgn
      have c14 := (HA.out.block (HPS.out.bel.block w.heap.size hlt0)).c14
      have HL16 := Lib.hid (pS15_len M M.ni HNI.out)
      clear HI1 hk hlt
      go_wp2_with fail
      refine (part_ps (hasB (M.F 0) 9) h 512 M.nl 1 HPS.out (fun _ => by omega) (by omega) (by have := HL16.out; omega) A9.out).mono ?_
      rintro e w5 ⟨rfl, hp⟩
      replace HPS : Hid (PS w1 (pS16 M) w5) := hp
      clear hp c14 HL16
      have c14 := (HA.out.block (HPS.out.bel.block w.heap.size hlt0)).c14
      go_wp2_with fail
      clear c14
      have HNL : Hid (M.nl ≤ 16) := Lib.hid hnl
      have HLW := Lib.hid (fun n (hn : n ≤ M.nl) => logW_len HMP.out.l n hn)
      have HLG := Lib.hid (fun i (hi : i < M.nl) => (logOk_get M.nl HMP.out.l i hi).1)
      have HL16 := Lib.hid (pS16_len M HNI.out)
      have h17 : PS w1 (pS17 M 0) w5 := by have := HPS.out; unfold pS17 logW; rw [List.append_nil]; exact this
      generalize hgl : M.nl = q at *
      have HGL := Lib.hid hgl
      clear hgl hnl HPS
      have HPS := Lib.hid h17
      clear h17
      go_loopw [137] (fun i wr => ∃ k : Nat, k ≤ q ∧ i = .int .i64 k ∧ PS w1 (pS17 M k) wr) (fun i _ => q - (intOf i).toNat)
      case atStart => exact ⟨0, by omega, rfl, HPS.out⟩
      case round =>
        obtain ⟨k, hk, rfl, hps⟩ := hrel
        clear HPS
        have HPS := Lib.hid hps
        clear hps
        by_cases hlt : k < q
        · obtain ⟨b, o, rfl, hbl, hin⟩ := HI2.out (by omega)
          obtain ⟨sv, he, hs⟩ := (hin.below HPS.out.bel (Nat.le_refl _)) k hlt
          have hki : (k : Int) < (q : Int) := by omega
          have HNx : Hid (pS17 M (k + 1) = pS17 M k ++ leB ((entW (M.D k)).length : Int) 2 ++ entW (M.D k)) := Lib.hid (by unfold pS17; rw [List.append_assoc, List.append_assoc]; show _ ++ (logW M.D k ++ _ ++ _) = _; rw [List.append_assoc])
          have HLk : Hid ((pS17 M k).length ≤ 4000) := Lib.hid (by have h1 := HLW.out k (by omega); have h2 := HL16.out; have h3 := HNL.out; unfold pS17; rw [List.length_append]; omega)
          have hmd := HLG.out k hlt
          have hel := entW_len hmd
          have HEL := Lib.hid hel
          have HE := Lib.hid he
          have HS := Lib.hid hs
          have HMD : Hid (mayE (M.D k).fr (M.D k).n (M.D k).E (M.D k).I = true) := Lib.hid hmd
          have HEW : Hid (putB (M.D k).fr (M.D k).n (M.D k).E (M.D k).I = entW (M.D k)) := Lib.hid rfl
          clear he hs hin hmd hel
          generalize entW (M.D k) = eb at *
          generalize pS17 M k = bs at *
          generalize M.D k = x at *
          have o1 := HS.out.one x.fr x.I
          have HO1 := Lib.hid o1
          have HX := Lib.hid (entAt_new x.fr sv x.I 37 wr)
          have HBW := Lib.hid ((Below.refl wr.heap.size wr).alloc (Nat.le_refl _) (Obj.cells (entL x.fr sv x.I).toArray 37))
          clear o1
          go_wp2_with (first | (refine wpList_load_g (by rfl) 37 _ rfl b (o + k * 26) rfl _ _ HE.out.range Try.underlying37 rfl (size_ent _ _ _) ?_) | (refine wpList_store_ent rfl (.tmp 9) (.tmp 140) rfl x.fr sv x.I HO1.out wr wr.heap.size rfl rfl rfl ?_) | (refine wpList_load_g (by rfl) 37 _ rfl wr.heap.size 0 rfl _ _ HX.out.range Try.underlying37 rfl (size_ent _ _ _) ?_))
          refine (put_yes x.fr sv x.n x.E x.I _ (HS.out.below HBW.out (Nat.le_refl _)) (by have := mayE_le HMD.out; omega) HMD.out).mono ?_
          rintro e w6 ⟨⟨v6, rfl, hO6⟩, hb6⟩
          rw [HEW.out] at hO6
          obtain ⟨g6, cp6, rfl, hg6, hg6l, hc6, hcm6⟩ := hO6.form (by have := HEL.out; omega)
          have hps6 := (HPS.out.below HBW.out (Nat.le_refl _)).below hb6 (Nat.le_refl _)
          obtain ⟨⟨v, hv⟩, hbel⟩ := HPS.out
          have hv6 : WrAt w6 w1.heap.size v bs := (hv.below HBW.out (Nat.le_refl _)).below hb6 (Nat.le_refl _)
          have hg6s : wr.heap.size < g6 := by have : wr.heap.size + 1 ≤ g6 := by simpa using hg6
                                              omega
          have hgv : some g6 ≠ v.ownBlock := fun e => by have := (World.ownsRow.lt hv.own g6 e.symm).2; omega
          have hgR : g6 ≠ w1.heap.size := by have := hv.lt; omega
          have HO6 := Lib.hid hO6
          have HV6 := Lib.hid hv6
          have HP6 := Lib.hid hps6.bel
          have HG := Lib.hid (And.intro hgv (And.intro hgR hg6l))
          clear hO6 hb6 hps6 hv hbel hv6 hgv hgR hg6 hg6l hg6s HO1 HX HBW HE HS HPS HEW hcm6
          generalize wr.heap.size = T9 at *
          have hel2 : eb.length ≤ 200 := HEL.out.2
          go_wp2_with fail
          refine (num_any w1.heap.size v bs (eb.length : Int) 2 _ HV6.out (by omega) (by omega) (by have := HLk.out; omega)).mono ?_
          rintro e w7 ⟨rfl, v7, hv7, hw7⟩
          have hbk : w7.heap[g6]? = w6.heap[g6]? := hw7.block g6 HG.out.2.2 HG.out.2.1 HG.out.1
          have hO7 : ∀ j u, (bv eb)[j]? = some u → w7.cell? ((⟨g6, 0, none⟩ : Addr).add j) = some u := fun j u hj => (World.cell?_of_block (by rw [Go.WideShapes.add_plain]; exact hbk)).trans (World.ownsRow.cells HO6.out (g := g6) rfl j u hj)
          have HO7 := Lib.hid hO7
          have HV7 := Lib.hid hv7
          have HP7 := Lib.hid (HP6.out.trans (hw7.below HV6.out))
          have cR := hv7.cell
          have fR := hv7.fz
          clear hbk hO7 hv7 hw7 HO6 HV6 HP6 HG
          have HL7 : Hid ((bs ++ leB (eb.length : Int) 2).length ≤ 4002) := Lib.hid (by have := HLk.out; rw [List.length_append, leB_len]; omega)
          clear HLk
          generalize bs ++ leB (eb.length : Int) 2 = bs7 at *
          go_wp2_with (at_builtin; refine step_app2 rfl (.tmp 155) (.tmp 156) rfl (w1.heap.size + 1) v7 bs7 eb _ rfl HV7.out.own (by have := HV7.out.lt; omega) (some ⟨g6, 0, none⟩) eb.length cp6 rfl rfl ?_ (by intro h; cases h) (by have := HL7.out; omega) ?_)
          · intro ad e j u hj
            injection e with e
            subst e
            exact HO7.out j u hj
          intro v8 w8 hO8 ha8
          obtain ⟨L2, g2, cp2, rfl⟩ : ∃ L2 g2 cp2, v8 = .slice (some ⟨g2, 0, none⟩) L2 cp2 := by
            obtain ⟨g2, cp2, e, -⟩ := hO8.form (by have := HEL.out; rw [List.length_append]; omega)
            exact ⟨_, g2, cp2, e⟩
          obtain ⟨hw9, hwr9, c9, f9⟩ := HV7.out.next0 hO8 ha8
          rw [← HNx.out] at hw9
          have hps9 : PS w1 (pS17 M (k + 1)) (w8.setCell ⟨w1.heap.size, 0, none⟩ (.slice (some ⟨g2, 0, none⟩) L2 cp2)) := ⟨⟨_, hw9⟩, HP7.out.trans (hwr9.below HV7.out)⟩
          have HPS := Lib.hid hps9
          clear hO8 ha8 hw9 hwr9 hps9 cR fR HO7 HV7 HP7 hel2
          go_wp2_with fail
          exact ⟨⟨k + 1, by omega, by go_num, HPS.out⟩, by simp [intOf]; omega⟩
        · obtain rfl : k = q := by omega
          have hgl := HGL.out
          subst hgl
          have c15 := (HA.out.block (HPS.out.bel.block w.heap.size hlt0)).c15
          have HL17 : Hid ((pS17 M M.nl).length ≤ 4000) := Lib.hid (by have h1 := HLW.out M.nl (by omega); have h2 := HL16.out; have h3 := HNL.out; unfold pS17; rw [List.length_append]; omega)
          clear HI2 hk hlt HL16 HLW HLG
          go_wp2_with fail
          refine (part_ps (hasB (M.F 0) 10) h 1024 M.d.length 1 HPS.out (fun _ => by omega) (by omega) (by have := HL17.out; omega) A10.out).mono ?_
          rintro e w6 ⟨rfl, hp⟩
          replace HPS : Hid (PS w1 (pS18 M) w6) := hp
          clear hp c15
          have HL18 : Hid ((pS18 M).length ≤ 4001) := Lib.hid (by have h1 := HL17.out; have h2 := pt_len M 10 M.d.length 1; unfold pS18; rw [List.length_append]; omega)
          have hWr := HPS.out.ex
          obtain ⟨v, hv⟩ := hWr
          have hbel := HPS.out.bel
          have hC3 : SD w.heap.size (.slice a3 M.d.length cap3) w6 := (HA.out.block (hbel.block w.heap.size hlt0)).c15
          have HV := Lib.hid hv
          have HBel := Lib.hid hbel
          have cR := hv.cell
          have HL19 : Hid (pS19 M = pS18 M ++ M.d) := Lib.hid rfl
          have HGe := Lib.hid (pS18_ge M)
          have HD : Hid ((∀ ad, a3 = some ad → ∀ j u, (bv M.d)[j]? = some u → w6.cell? (ad.add j) = some u) ∧ (a3 = none → M.d.length = 0)) := Lib.hid (data_cells HI3.out hbel)
          clear hv hbel HPS HI3
          generalize pS18 M = bs at *
          go_upto_region 33 with (fail)
          refine wp_region_held (S := SD w.heap.size (.slice a3 M.d.length cap3)) (by kernel_rfl) ?_
          change wpAnyH _ _ _ _ _ _ _ _ (World.drew _)
          have hS := (show SD w.heap.size (.slice a3 M.d.length cap3) w6.drew from hC3)
          refine wpAnyH_take (i := 0) (v := ?_) rfl (by kernel_rfl) (by kernel_rfl) (by kernel_rfl) (fun _ _ _ h => h) (Or.inl ⟨by rfl, ?_⟩) hS ?_
          rotate_left 1
          · intro w d0; unfold SD at d0; go_simp; try with_reducible rfl
          refine wpAnyH_take (i := 1) (v := ?_) rfl (by kernel_rfl) (by kernel_rfl) (by kernel_rfl) (fun _ _ _ h => h) (Or.inl ⟨by rfl, ?_⟩) hS ?_
          rotate_left 1
          · intro w d0; unfold SD at d0; go_simp; try with_reducible rfl
          refine wpAnyH_take (i := 2) (v := ?_) rfl (by kernel_rfl) (by kernel_rfl) (by kernel_rfl) (fun _ _ _ h => h) (Or.inl ⟨by rfl, ?_⟩) hS ?_
          rotate_left 1
          · intro w d0; unfold SD at d0; go_simp; try with_reducible rfl
          refine wpAnyH_take (i := 3) (v := ?_) rfl (by kernel_rfl) (by kernel_rfl) (by kernel_rfl) (fun _ _ _ h => h) (Or.inl ⟨by rfl, ?_⟩) hS ?_
          rotate_left 1
          · intro w d0; unfold SD at d0; go_simp; try with_reducible rfl
          refine wpAnyH_take (i := 5) (v := ?_) rfl (by kernel_rfl) (by kernel_rfl) (by kernel_rfl) (fun _ _ _ h => h) (Or.inl ⟨by rfl, ?_⟩) hS ?_
          rotate_left 1
          · intro w d0; unfold SD at d0; go_simp; try with_reducible rfl
          refine wpAnyH_take (i := 6) (v := ?_) rfl (by kernel_rfl) (by kernel_rfl) (by kernel_rfl) (fun _ _ _ h => h) (Or.inl ⟨by rfl, ?_⟩) hS ?_
          rotate_left 1
          · intro w d0; unfold SD at d0; go_simp; try with_reducible rfl
          refine wpAnyH_ready (rs := [4]) (by kernel_rfl) (by simp) ?_
          refine AllReadyH.cons rfl (fun K hK => ?_) AllReadyH.nil
          go_simp
          refine hK.out _ _ hS (fun hS => ?_)
          clear hK K
          refine wpAnyH_ready (rs := [7]) (by kernel_rfl) (by simp) ?_
          refine AllReadyH.cons rfl (fun K hK => ?_) AllReadyH.nil
          refine step_appR rfl (.tmp 172) (.tmp 174) rfl (w1.heap.size + 1) v bs M.d (HV.out.own.below ((Below.refl w6.heap.size w6).drew) (Nat.le_refl _)) (by have := HV.out.lt; simp; omega) a3 M.d.length cap3 rfl (by simp [Act.eval, Act.put]) (by simp [Act.eval, Act.put]) HD.out.1 HD.out.2 (by have := HL18.out; omega) ?_
          intro v' w' hO ha
          obtain ⟨L2, g2, cp2, rfl, hL2⟩ : ∃ L2 g2 cp2, v' = .slice (some ⟨g2, 0, none⟩) L2 cp2 ∧ L2 = (bs ++ M.d).length := by
            obtain ⟨g2, cp2, e, -⟩ := hO.form (by have := HGe.out; rw [List.length_append]; omega)
            exact ⟨_, g2, cp2, e, rfl⟩
          obtain ⟨hw7, hb7, hcR, hfR, hk7, hk7'⟩ := ps_reg0 HV.out HBel.out hO ha
          have hkT := HA.out.c15
          have hC4 : SD w.heap.size (.slice a3 M.d.length cap3) w' := (World.cell?_of_block (a := ⟨w.heap.size, 15, none⟩) (hk7 w.heap.size hlt0)).trans hkT
          have hC5 : SD w.heap.size (.slice a3 M.d.length cap3) (w'.setCell ⟨w1.heap.size, 0, none⟩ (.slice (some ⟨g2, 0, none⟩) L2 cp2)) := (World.cell?_of_block (a := ⟨w.heap.size, 15, none⟩) (hk7' w.heap.size hlt0)).trans hkT
          rw [← HL19.out] at hw7 hL2
          have HW7 := Lib.hid hw7
          have HB7 := Lib.hid hb7
          have HL2 := Lib.hid hL2
          clear hO ha hw7 hb7 hk7 hk7' cR hkT hL2
          refine hK.out _ _ hC4 (fun hS => ?_)
          clear hK K
          refine wpAnyH_take (i := 8) (v := ?_) rfl (by kernel_rfl) (by kernel_rfl) (by kernel_rfl) (fun _ _ _ h => h) (Or.inl ⟨by rfl, ?_⟩) hS ?_
          rotate_left 1
          · intro w d0; unfold SD at d0; go_simp; try with_reducible rfl
          refine wpAnyH_take (i := 9) (v := ?_) rfl (by kernel_rfl) (by kernel_rfl) (by kernel_rfl) (fun _ _ _ h => h) (Or.inl ⟨by rfl, ?_⟩) hS ?_
          rotate_left 1
          · intro w d0; unfold SD at d0; go_simp; try with_reducible rfl
          refine wpAnyH_ready (rs := [10]) (by kernel_rfl) (by simp) ?_
          refine AllReadyH.cons rfl (fun K hK => ?_) AllReadyH.nil
          go_simp
          refine hK.out _ _ hC5 (fun hS => ?_)
          clear hK K
          refine wpAnyH_done (by kernel_rfl) ?_ _
          clear hS hC4 hC5 hC3 hcR hfR HD HL19 HV HBel
          generalize w'.setCell ⟨w1.heap.size, 0, none⟩ (.slice (some ⟨g2, 0, none⟩) L2 cp2) = w7 at *
          have HPL : Hid (L2 = (putM M).length) := Lib.hid (by rw [HL2.out, pS19_len, putM_len])
          have cR := HW7.out.cell
          have hL14 : 14 ≤ L2 := by rw [HL2.out]; have := HGe.out; unfold pS19; rw [List.length_append]; have := pS18_ge M; omega
          by_cases hbig : 1200 < L2
          · have hbI : (1200 : Int) < (L2 : Int) := by omega
            go_wp2_with fail
            go_ret2
            exact ⟨Or.inl ⟨by rw [← HPL.out]; exact hbig, rfl⟩, HB.out.trans (HB7.out.mono (Nat.le_of_lt hlt0))⟩
          have hbI : ¬ (1200 : Int) < (L2 : Int) := by omega
          go_upto_region 36 with (fail)
          have hLP : (putM M).length ≤ 1200 := by rw [← HPL.out]; omega
          have HLP := Lib.hid hLP
          clear hLP
          obtain ⟨-, -, hg2l, hLc, hcm2⟩ := HW7.out.own.lits (by rw [← HL2.out]; omega)
          rw [← HL2.out] at hLc
          obtain ⟨m, hm⟩ : ∃ m, L2 = m + 4 := ⟨L2 - 4, by omega⟩
          obtain ⟨c, hc⟩ : ∃ c, cp2 = c + 4 := ⟨cp2 - 4, by omega⟩
          have HBV : Hid (BytesV w7 (.slice (some ⟨g2, 4, none⟩) m c) (bodyM M)) := Lib.hid (body_bytes (pS19_eq M) HW7.out.own (by have := HL2.out; rw [pS19_len] at this; omega) (by omega) (by unfold maxLen at hcm2 ⊢; omega) hg2l)
          have hc1 : 1 ≤ c := by omega
          have hmc : m ≤ c := by omega
          have hm10 : 10 ≤ m := by omega
          subst hm
          subst hc
          clear hcm2 hbig hbI hL14 hLc
          have HG2 := Lib.hid hg2l
          have HR2 : Hid (w1.heap.size < g2) := Lib.hid (by have := (World.ownsRow.lt HW7.out.own g2 rfl).1; omega)
          clear hg2l
          have hcz : ¬ ((c : Int) + 4 = 4) := by omega
          go_wp2_with fail
          refine (check_any _ (bodyM M) w7 HBV.out (bodyM_by HM.out)).mono ?_
          rintro e w8 ⟨rfl, hb8⟩
          have HW8 := Lib.hid (HW7.out.below hb8 (Nat.le_refl _))
          have HB8 := Lib.hid (HB7.out.trans (hb8.mono HB7.out.size))
          have hcrc := crc_lt (bodyM M) (bodyM_by HM.out) (bodyM M).length
          have HPM := Lib.hid (putM_eq M)
          clear hb8 HW7 HB7 HBV cR
          have cR := HW8.out.cell
          have HDr := Lib.hid (drop_pS19 M)
          have hg8 : g2 < w8.heap.size := (HW8.out.own.lits (by have := HL2.out; omega)).2.2.1
          have HG8 := Lib.hid hg8
          clear hg8
          generalize crc (bodyM M) (bodyM M).length = c0 at *
          go_wp2_with (refine step_copy4 (o := ⟨some 206, _, _, _, _, _⟩) rfl (.tmp 193) (.tmp 205) rfl (w1.heap.size + 1) g2 (m + 4) (c + 4) w8.heap.size w8 (pS19 M) HW8.out.own (by have := HL2.out; omega) rfl rfl ((c0 : Int) % 256) ((c0 : Int) / 256 % 256) ((c0 : Int) / 65536 % 256) ((c0 : Int) / 16777216) rfl ?_)
          intro w9 hO9 ho9
          have hq : ((c0 : Int) % 256 :: (c0 : Int) / 256 % 256 :: (c0 : Int) / 65536 % 256 :: (c0 : Int) / 16777216 :: (pS19 M).drop 4) = putM M := by
            have h0 : (c0 : Int) / 16777216 % 256 = (c0 : Int) / 16777216 := by omega
            rw [HPM.out, leB4, h0, HDr.out]
            simp only [List.cons_append, List.nil_append]
          rw [hq] at hO9
          have HO9 := Lib.hid hO9
          have hRlt := HW8.out.lt
          have hb9 : Below w1.heap.size w1 w9 := ((HB8.out.alloc (Nat.le_of_lt hRlt) _).trans (ho9.below (by have := HR2.out; omega)))
          have HB9 := Lib.hid hb9
          have c9 : w9.cell? ⟨w1.heap.size, 0, none⟩ = some (.slice (some ⟨g2, 0, none⟩) (m + 4) (c + 4)) := (World.cell?_of_block (a := ⟨w1.heap.size, 0, none⟩) ((ho9.block w1.heap.size (by have := HR2.out; omega)).trans (Below.heap_alloc w8 _ _ hRlt))).trans cR
          clear hO9 ho9 hq hb9 HW8 HB8 cR HPM HDr
          go_wp2_with fail
          go_ret2
          exact ⟨Or.inr ⟨HLP.out, _, rfl, HO9.out.mono (by omega)⟩, HB.out.trans (HB9.out.mono (Nat.le_of_lt hlt0))⟩
end Go.Proofs.Ytembppihfcclcaa
