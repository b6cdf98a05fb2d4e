/-
  Wire: the reader's calls, as message makes them.
-/
import Derived.Test.YtembppihfcclcaaML
namespace Go.Proofs.Ytembppihfcclcaa
set_option linter.unusedVariables false
open Go.ChangeShapes Go.WideShapes Go.ChangeAt Go.RowKit

set_option linter.unusedSimpArgs false
structure RX (w : World) (bs : List Int) (R b : Nat) : Prop where
  hR : R < w.heap.size
  hb : b < w.heap.size
  ne : b ≠ R
  by' : ByteL bs
/-- Where message stands ahead of the first store. -/
structure GA (w : World) (bs : List Int) (R b o C i : Nat) (wr : World) : Prop where
  rd : RwAt wr R b o bs.length C i
  sz : wr.heap.size = w.heap.size + 1
  th2 : wr.there w.heap.size 0 16
  rdw : RdW R w wr
  bya : BytesAt wr b o bs
theorem ga_start {w : World} {bs : List Int} {R b o C : Nat} (X : RX w bs R b) (hr : RwAt w R b o bs.length C 0) (hb : BytesAt w b o bs) : GA w bs R b o C 0 (w.alloc (Obj.cells #[.int .i64 0, .int .i64 0, .int .u16 0, .int .u16 0, .int .u32 0, .int .i64 0, .int .i64 0, .int .i64 0, .int .i64 0, .int .i64 0, .int .i64 0, .int .u32 0, .int .u64 0, .slice none 0 0, .slice none 0 0, .slice none 0 0] 30)) := by
  have hB := (Below.refl w.heap.size w).alloc (Nat.le_refl _) (Obj.cells #[.int .i64 0, .int .i64 0, .int .u16 0, .int .u16 0, .int .u32 0, .int .i64 0, .int .i64 0, .int .i64 0, .int .i64 0, .int .i64 0, .int .i64 0, .int .u32 0, .int .u64 0, .slice none 0 0, .slice none 0 0, .slice none 0 0] 30)
  exact ⟨hr.block (hB.block R X.hR), by simp, there_msgZ w, rdW_of hB (Nat.le_refl _), hb.block (hB.block b X.hb)⟩
theorem num_ga {w wr : World} {bs : List Int} {R b o C i : Nat} (X : RX w bs R b) (h : GA w bs R b o C i wr) (n : Nat) (hn0 : 0 < n) (hn8 : n ≤ 8) :
    Calls Try.prog 42 #[.pointer (some ⟨R, 0, none⟩), .int .i64 (n : Int)] wr fun e w' => (e = .returned (.int .u64 (leV bs i n)) ∧ Hid (GA w bs R b o C (i + n) w')) ∨ (Hid (bs.length < i + n) ∧ e = .panicked wrongW ∧ Hid (RdW R w w')) := by
  refine (rnum_q R b o C i n bs wr X.by' h.rd hn0 hn8 h.bya X.ne).mono ?_
  have hR := X.hR
  rintro e w' (⟨h1, rfl, hr, ho⟩ | ⟨h1, rfl, rfl⟩)
  · exact Or.inl ⟨rfl, Lib.hid ⟨hr, by rw [ho.size]; exact h.sz, there_block h.th2 (ho.block _ (by omega)), h.rdw.trans ho.rdW, h.bya.block (ho.block b X.ne)⟩⟩
  · exact Or.inr ⟨Lib.hid h1, rfl, Lib.hid h.rdw⟩
theorem gm_start {w wr : World} {bs : List Int} {R b o C : Nat} (X : RX w bs R b) (h : GA w bs R b o C 10 wr) :
    GM w bs R b o C 10 5 (.slice none 0 0) 0 (.slice none 0 0) 0 (.slice none 0 0) [] (wr.alloc (Obj.cells (msgL (bF (leV bs 0 1) (leV bs 1 1) (leV bs 2 2) (leV bs 4 2) (leV bs 6 4)) (.slice none 0 0) (.slice none 0 0) (.slice none 0 0)).toArray 30)) := by
  have hB := (Below.refl wr.heap.size wr).alloc (Nat.le_refl _) (Obj.cells (msgL (bF (leV bs 0 1) (leV bs 1 1) (leV bs 2 2) (leV bs 4 2) (leV bs 6 4)) (.slice none 0 0) (.slice none 0 0) (.slice none 0 0)).toArray 30)
  have hA := msgAt_new (bF (leV bs 0 1) (leV bs 1 1) (leV bs 2 2) (leV bs 4 2) (leV bs 6 4)) (.slice none 0 0) (.slice none 0 0) (.slice none 0 0) 30 wr
  have hT : (wr.alloc (Obj.cells (msgL (bF (leV bs 0 1) (leV bs 1 1) (leV bs 2 2) (leV bs 4 2) (leV bs 6 4)) (.slice none 0 0) (.slice none 0 0) (.slice none 0 0)).toArray 30)).there wr.heap.size 0 16 := there_alloc_lit _ _ _ _ (by
    have e : (msgL (bF (leV bs 0 1) (leV bs 1 1) (leV bs 2 2) (leV bs 4 2) (leV bs 6 4)) (.slice none 0 0) (.slice none 0 0) (.slice none 0 0)).toArray.size = 16 := by rw [List.size_toArray, msgL_len]
    rw [e]; exact Nat.le_refl _)
  have hs := h.sz
  have hR := X.hR
  have hb := X.hb
  rw [hs] at hA hT
  generalize wr.alloc (Obj.cells (msgL (bF (leV bs 0 1) (leV bs 1 1) (leV bs 2 2) (leV bs 4 2) (leV bs 6 4)) (.slice none 0 0) (.slice none 0 0) (.slice none 0 0)).toArray 30) = w2 at *
  refine ⟨h.rd.block (hB.block R (by omega)), hA.congr (fun k hk => ?_), hT, there_block h.th2 (hB.block _ (by omega)), h.rdw.trans (rdW_of hB (Nat.le_refl _)), h.bya.block (hB.block b (by omega)), World.ownsRow_nil _ _ _ _, ⟨fun _ => .slice none 0 0, World.ownsRow_nil _ _ _ _, fun i hi => by omega⟩, World.ownsRow_nil _ _ _ _, fun g e => by simp [Value.ownBlock]⟩
  unfold bF gFs gF
  by_cases h0 : k = 0
  · subst h0; rfl
  · by_cases h1 : k = 1
    · subst h1; rfl
    · by_cases h2 : k = 2
      · subst h2; rfl
      · by_cases h3 : k = 3
        · subst h3; rfl
        · by_cases h4 : k = 4
          · subst h4; rfl
          · rw [if_neg h0, if_neg h1, if_neg h2, if_neg h3, if_neg h4, if_neg (by omega)]
section
variable {w wr : World} {bs : List Int} {R b o C i j m ni nl : Nat} {iv lv dv : Value} {d : List Int}
theorem num_gm (X : RX w bs R b) (h : GM w bs R b o C i m iv ni lv nl dv d wr) (n : Nat) (hn0 : 0 < n) (hn8 : n ≤ 8) :
    Calls Try.prog 42 #[.pointer (some ⟨R, 0, none⟩), .int .i64 (n : Int)] wr fun e w' => (e = .returned (.int .u64 (leV bs i n)) ∧ Hid (GM w bs R b o C (i + n) m iv ni lv nl dv d w')) ∨ (Hid (bs.length < i + n) ∧ e = .panicked wrongW ∧ Hid (RdW R w w')) := by
  refine (rnum_q R b o C i n bs wr X.by' h.rd hn0 hn8 h.bya X.ne).mono ?_
  rintro e w' (⟨h1, rfl, hr, ho⟩ | ⟨h1, rfl, rfl⟩)
  · exact Or.inl ⟨rfl, Lib.hid (h.read X.hR X.hb X.ne ho.rdW hr)⟩
  · exact Or.inr ⟨Lib.hid h1, rfl, Lib.hid h.rdw⟩
theorem num1_gm (X : RX w bs R b) (h : GM w bs R b o C i m iv ni lv nl dv d wr) (j : Nat) (hj : i + 1 = j) :
    Calls Try.prog 42 #[.pointer (some ⟨R, 0, none⟩), .int .i64 1] wr fun e w' => (e = .returned (.int .u64 (zz bs i)) ∧ Hid (GM w bs R b o C j m iv ni lv nl dv d w')) ∨ (Hid (bs.length < j) ∧ e = .panicked wrongW ∧ Hid (RdW R w w')) := by
  subst hj
  rw [← leV1]
  exact num_gm X h 1 (by omega) (by omega)
theorem part_gm (X : RX w bs R b) (has : Bool) (h p v : Int) (n q : Nat) (hg : GM w bs R b o C i m iv ni lv nl dv d wr) (hh : (bits .and .i64 h p == 0) = !has) (hn0 : 0 < n) (hn4 : n ≤ 4) (hq : q = i + (if has then n else 0)) (hv : v = if has then leV bs i n else 0) :
    Calls Try.prog 58 #[.pointer (some ⟨R, 0, none⟩), .int .i64 h, .int .i64 p, .int .i64 (n : Int)] wr fun e w' => (e = .returned (.int .i64 v) ∧ Hid (GM w bs R b o C q m iv ni lv nl dv d w')) ∨ (Hid (bs.length < q) ∧ e = .panicked wrongW ∧ Hid (RdW R w w')) := by
  subst hq hv
  refine (rpart_q R b o C i n bs has h p hh wr X.by' hg.rd hn0 hn4 hg.bya X.ne).mono ?_
  rintro e w' (⟨h1, rfl, hr, ho⟩ | ⟨h1, rfl, rfl⟩)
  · exact Or.inl ⟨rfl, Lib.hid (hg.read X.hR X.hb X.ne ho.rdW hr)⟩
  · exact Or.inr ⟨Lib.hid h1, rfl, Lib.hid hg.rdw⟩
end
theorem log_gm {w wr : World} {bs : List Int} {R b o C m ni nl : Nat} {iv lv dv : Value} {d : List Int} (X : RX w bs R b) (h : GM w bs R b o C (gQe bs nl) m iv ni lv nl dv d wr) (hnl : nl < gNl bs) :
    Calls Try.prog 59 #[.pointer (some ⟨R, 0, none⟩)] wr fun e w' => (∃ sv, e = .returned (.agg (entL (gD bs nl).fr sv (gD bs nl).I).toArray) ∧ Hid (GM w bs R b o C (gQe bs (nl + 1)) m iv ni lv nl dv d w') ∧ Hid (OwnE w' (w.heap.size + 2) sv (gD bs nl).n (gD bs nl).E) ∧ Hid (∀ g, sv.ownBlock = some g → lv.ownBlock ≠ some g) ∧ Hid (OkG (eBy bs (gQe bs nl)))) ∨
      (Hid (¬ POk bs) ∧ e = .panicked wrongW ∧ Hid (RdW R w w')) := by
  have hlt := h.lt
  have hR := X.hR
  have hb := X.hb
  refine (log_any R b o C (gQe bs nl) bs wr X.by' h.rd h.bya (by omega) X.ne).mono ?_
  rintro e w' (⟨h1, hok, ⟨sv, rfl, hO⟩, hr, hd⟩ | ⟨h1, rfl, hd⟩)
  · refine Or.inl ⟨sv, rfl, Lib.hid (h.read X.hR X.hb X.ne hd hr), Lib.hid (hO.mono (by omega)), Lib.hid (fun g hg e => ?_), Lib.hid hok⟩
    obtain ⟨S, hrow, -⟩ := h.ol.ex
    have h2 := (World.ownsRow.lt hO g hg).1
    have h3 := (World.ownsRow.lt hrow g e).2
    omega
  · exact Or.inr ⟨Lib.hid (not_pok_log hnl h1), rfl, Lib.hid (h.rdw.trans hd)⟩
theorem raw_gm {w wr : World} {bs : List Int} {R b o C m ni nl : Nat} {iv lv dv : Value} {d : List Int} (X : RX w bs R b) (h : GM w bs R b o C (gQt bs) m iv ni lv nl dv d wr) :
    Calls Try.prog 57 #[.pointer (some ⟨R, 0, none⟩), .int .i64 (gNd bs : Int)] wr fun e w' => (∃ ad, e = .returned (.slice (some ad) (gNd bs) (C - gQt bs)) ∧ Hid (gEnd bs ≤ bs.length) ∧ Hid (GM w bs R b o C (gEnd bs) m iv ni lv nl dv d w') ∧ Hid ((gDt bs).length = gNd bs) ∧ Hid (∀ j u, (bv (gDt bs))[j]? = some u → w'.cell? (ad.add j) = some u)) ∨
      (Hid (¬ POk bs) ∧ e = .panicked wrongW ∧ Hid (RdW R w w')) := by
  have hlt := h.lt
  have hb := X.hb
  by_cases hn : gQt bs + gNd bs ≤ bs.length
  · refine (raw_any R b o _ C (gQt bs) (gNd bs) wr h.rd hn).mono ?_
    rintro e w' ⟨ad, rfl, had, hr, ho⟩
    have hG := h.read X.hR X.hb X.ne ho.rdW hr
    have hl : (gDt bs).length = gNd bs := by unfold gDt; rw [List.length_take, List.length_drop]; omega
    refine Or.inl ⟨ad, rfl, Lib.hid hn, Lib.hid hG, Lib.hid hl, Lib.hid (fun j u hj => ?_)⟩
    have hjl : j < gNd bs := by have := (List.getElem?_eq_some_iff.1 hj).1; rwa [bv_len, hl] at this
    rw [had (by omega), Addr.add_lit]
    have hc := hG.bya (gQt bs + j) (by omega)
    rw [show o + gQt bs + j = o + (gQt bs + j) by omega, hc, ← hj]
    unfold bv gDt
    rw [List.getElem?_map, List.getElem?_take, if_pos hjl, List.getElem?_drop, List.getElem?_eq_getElem (by omega), List.getD_eq_getElem?_getD, List.getElem?_eq_getElem (by omega)]
    rfl
  · refine (raw_end R b o _ C (gQt bs) (gNd bs) wr h.rd (by omega)).mono ?_
    rintro e w' ⟨rfl, rfl⟩
    exact Or.inr ⟨Lib.hid (not_pok_end (show bs.length < gQt bs + gNd bs by omega)), rfl, Lib.hid h.rdw⟩
theorem OwnI.mono {w : World} {B B' n : Nat} {v : Value} {I : Nat → Int} (h : OwnI w B v n I) (hb : B' ≤ B) : OwnI w B' v n I := by
  refine ⟨h.1, ?_⟩
  rcases h.2 with hn | ⟨g, cap, cur, h1, h2, h3⟩
  · exact Or.inl hn
  · exact Or.inr ⟨g, cap, cur, h1, by omega, h3⟩
theorem OwnL.mono {w : World} {B B' n : Nat} {v : Value} {D : Nat → Ent} (h : OwnL w B v n D) (hb : B' ≤ B) : OwnL w B' v n D := by
  obtain ⟨S, h1, h2⟩ := h.ex
  refine ⟨S, ⟨h1.1, ?_⟩, fun i hi => ⟨(h2 i hi).1.mono hb, (h2 i hi).2⟩⟩
  rcases h1.2 with hn | ⟨g, cap, cur, h3, h4, h5⟩
  · exact Or.inl hn
  · exact Or.inr ⟨g, cap, cur, h3, by omega, h5⟩
theorem gm_end {w wr : World} {bs : List Int} {R b o C i m ni nl : Nat} {iv lv dv : Value} {d : List Int} (h : GM w bs R b o C i m iv ni lv nl dv d wr) (F : Nat → Int) :
    MsgAt (wr.setCells w.heap.size 0 (msgL F iv lv dv)) w.heap.size F iv lv dv ∧ OwnI (wr.setCells w.heap.size 0 (msgL F iv lv dv)) w.heap.size iv ni (gIn bs) ∧ OwnL (wr.setCells w.heap.size 0 (msgL F iv lv dv)) w.heap.size lv nl (gD bs) ∧ OwnB (wr.setCells w.heap.size 0 (msgL F iv lv dv)) w.heap.size dv d ∧ RdW R w (wr.setCells w.heap.size 0 (msgL F iv lv dv)) := by
  have hb := below_setCells (B := w.heap.size) w.heap.size (Nat.le_refl _) (msgL F iv lv dv) 0 (Below.refl w.heap.size wr)
  have hO : RdW w.heap.size wr (wr.setCells w.heap.size 0 (msgL F iv lv dv)) := ⟨hb.os, hb.tape, hb.output, hb.size, fun k hk hne => setCells_other w.heap.size k hne _ 0 wr⟩
  exact ⟨msgAt_stored h.th2 F iv lv dv, (h.oi.rdW hO (by omega)).mono (by omega), (h.ol.rdW hO (by omega)).mono (by omega), (h.od.rdW hO (by omega)).mono (by omega), rdW_setCells h.rdw w.heap.size (Nat.le_refl _) _⟩
/-- A row of one entry, laid in a region that draws its order. -/
theorem step_bs_ent {ops : Array Oper} {op : Oper} {a : Act} {w : World} {K : Act → World → Prop} {Q : Exit → Act → World → Prop} {E' : Prop} (hg : op.guard = none) (p : Operand) (ho : op.op = Op.buildSlice 27 1 #[(0, p)]) (fr : Int) (sv : Value) (I : Nat → Int) (hp : a.eval p = .agg (entL fr sv I).toArray)
    (h : K (a.put op.dst (.slice (some ⟨w.heap.size, 0, none⟩) 1 1)) (w.alloc (Obj.cells (entL fr sv I).toArray 37))) :
    if Region.wanted op (yielded ops a.tmps) = true then Oper.wp Try.prog op a w K Q else E' := by
  have hwn : Region.wanted op (yielded ops a.tmps) = true := by simp [Region.wanted, hg]
  rw [if_pos hwn]
  have e : (Array.map (fun x => (x.fst, a.eval x.snd)) #[(0, p)] : Array (Nat × Value)) = #[(0, .agg (entL fr sv I).toArray)] := by simp [hp]
  unfold Oper.wp
  simp only [execOp, ho]
  rw [e, Sem.run_bind, bs_ent]
  exact h
theorem msgq_bad {bs : List Int} {R : Nat} {w w' : World} (h : ¬ POk bs) (hr : Hid (RdW R w w')) : MsgQ bs R w (.panicked [{ v := .iface 76 (.agg #[]), recovered := false }]) w' := Or.inr ⟨h, rfl, hr.out⟩
end Go.Proofs.Ytembppihfcclcaa
