/-
  Wire: the reference's read: the log.
-/
import Derived.Test.YtembppihfcclcaaVO
import Derived.Test.YtembppihfcclcaaZE
import Derived.Deep.DeepCutAuto
namespace Go.Proofs.Ytembppihfcclcaa
set_option linter.unusedVariables false
open Go.ChangeShapes Go.WideShapes Go.ChangeAt Go.RowKit

set_option linter.unusedSimpArgs false
theorem wpList_app_enW {ops : Array Oper} {rest : List Oper} {o : Oper} {a : Act} {w w1 : World} {Q : Exit → Act → World → Prop} (hg : o.guard = none)
    (s x : Operand) (ho : o.op = Op.call { callee := Callee.builtin Builtin.append, args := #[s, x], argTypes := #[27, 27] })
    (B : Nat) (lv : Value) (m : Nat) (D : Nat → Ent) (hown : OwnL w1 B lv m D) (hm : m ≤ 1000) (hs : a.eval s = lv) (hB : B ≤ w1.heap.size) (sv : Value) (hsv : OwnE w1 B sv (D m).n (D m).E) (hsep : ∀ g, sv.ownBlock = some g → lv.ownBlock ≠ some g)
    (hw : w = w1.alloc (Obj.cells (entL (D m).fr sv (D m).I).toArray 37)) (hx : a.eval x = .slice (some ⟨w1.heap.size, 0, none⟩) 1 1)
    (h : ∀ v' w', Hid (OwnL w' B v' (m + 1) D) → Hid (w1.grownBy w' lv.ownBlock) → Hid (∃ g cap, v' = .slice (some ⟨g, 0, none⟩) (m + 1) cap) → wpList Try.prog ops Q rest (a.put o.dst v') w') :
    wpList Try.prog ops Q (o :: rest) a w := by
  refine wpList_plain hg fun K hK => ?_
  have hwn : Region.wanted o (yielded ops a.tmps) = true := by simp [Region.wanted, hg]
  have := step_app_en (ops := ops) (op := o) (a := a) (w := w) (w1 := w1) (K := K) (Q := Q) (E' := True) hg s x ho B lv m D hown hm hs hB sv hsv hsep hw hx (fun v' w' h1 h2 h3 h4 => hK _ _ (h v' w' (Lib.hid h1) (Lib.hid h2) (Lib.hid h4)))
  rwa [if_pos hwn] at this
theorem wpList_bs_entW {ops : Array Oper} {rest : List Oper} {o : Oper} {a : Act} {w : World} {Q : Exit → Act → World → Prop} (hg : o.guard = none) (p : Operand) (ho : o.op = Op.buildSlice 27 1 #[(0, p)]) (fr : Int) (sv : Value) (I : Nat → Int) (hp : a.eval p = .agg (entL fr sv I).toArray)
    (h : wpList Try.prog ops Q rest (a.put o.dst (.slice (some ⟨w.heap.size, 0, none⟩) 1 1)) (w.alloc (Obj.cells (entL fr sv I).toArray 37))) :
    wpList Try.prog ops Q (o :: rest) a w := by
  refine wpList_plain hg fun K hK => ?_
  have hwn : Region.wanted o (yielded ops a.tmps) = true := by simp [Region.wanted, hg]
  have := step_bs_ent (ops := ops) (op := o) (a := a) (w := w) (K := K) (Q := Q) (E' := True) hg p ho fr sv I hp (hK _ _ h)
  rwa [if_pos hwn] at this
def upD (D : Nat → Ent) (m : Nat) (x : Ent) : Nat → Ent := fun i => if i = m then x else D i
theorem upD_old (D : Nat → Ent) (m : Nat) (x : Ent) (i : Nat) (h : i < m) : upD D m x i = D i := by unfold upD; rw [if_neg (by omega)]
theorem upD_new (D : Nat → Ent) (m : Nat) (x : Ent) : upD D m x m = x := by unfold upD; rw [if_pos rfl]
theorem enL_congr {D D' : Nat → Ent} (S : Nat → Value) : ∀ n, (∀ i, i < n → D i = D' i) → enL D S n = enL D' S n
  | 0, _ => rfl
  | n + 1, h => by
    unfold enL
    rw [enL_congr S n (fun i hi => h i (by omega)), h n (by omega)]
theorem OwnL.congr {w : World} {B n : Nat} {v : Value} {D D' : Nat → Ent} (h : OwnL w B v n D) (hi : ∀ i, i < n → D i = D' i) : OwnL w B v n D' := by
  obtain ⟨S, h1, h2⟩ := h.ex
  exact ⟨S, by rwa [enL_congr S n hi] at h1, fun i hn => by rw [← hi i hn]; exact h2 i hn⟩
/-- The longer log goes into its cell. -/
theorem RQ.grewL {w wr w' : World} {R : Nat} {F : Nat → Int} {a : Option Addr} {n c : Nat} {iv dv v' : Value} {m m0 : Nat} {D D0 : Nat → Ent} {l : List Int} {bad : Bool} (h : RQ w R F iv (.slice a n c) dv wr) (hR : R < w.heap.size) (hr : RG wr R l bad) (hown : OwnL wr (w.heap.size + 2) (.slice a n c) m0 D0) (hO : OwnL w' (w.heap.size + 2) v' m D) (hg : wr.grownBy w' (Value.slice a n c).ownBlock) :
    RQ w R F iv v' dv (w'.setCell ⟨w.heap.size, 14, none⟩ v') ∧ w'.cell? ⟨w.heap.size, 14, none⟩ = some (.slice a n c) ∧ w'.frozen? ⟨w.heap.size, 14, none⟩ = false ∧ RG (w'.setCell ⟨w.heap.size, 14, none⟩ v') R l bad ∧ OwnL (w'.setCell ⟨w.heap.size, 14, none⟩ v') (w.heap.size + 2) v' m D := by
  have hs := h.s
  obtain ⟨S, hrow, -⟩ := hown.ex
  have hk : ∀ b, b < w.heap.size + 2 → w'.heap[b]? = wr.heap[b]? := fun b hb => hg.block b (by omega) (fun e => by have := (World.ownsRow.lt hrow b e.symm).1; omega)
  have hS := (Only.refl w.heap.size w').setCell (p := ⟨w.heap.size, 14, none⟩) rfl v'
  have hm' := h.m.block (hk w.heap.size (by omega))
  have ht' := there_block h.th (hk w.heap.size (by omega))
  have hz' := there_block h.z (hk (w.heap.size + 1) (by omega))
  refine ⟨⟨hm'.upL v', there_setW ht', there_block hz' (hS.block _ (by omega)), ⟨hg.os.trans h.d.os, hg.tape.trans h.d.tape, hg.output.trans h.d.output, ?_, fun k hk1 hne => ?_⟩, ?_⟩, hm'.c14, ?_, (hr.block (hk R (by omega))).block (hS.block R (by omega)), hO.rdW hS.rd.w (by omega)⟩
  · rw [hS.size]; exact Nat.le_trans h.d.size hg.size
  · exact (hS.block k (by omega)).trans ((hk k (by omega)).trans (h.d.block k hk1 hne))
  · rw [hS.size]; exact Nat.le_trans hs hg.size
  · have := (ht' 14 (by omega)).2; rwa [Nat.zero_add] at this
set_option maxRecDepth 100000 in
set_option maxHeartbeats 8000000 in
theorem readLog_any (bs : List Int) (R : Nat) (F : Nat → Int) (ia da : Option Addr) (ni ic nd dc : Nat) (l : List Int) (bad : Bool) (w : World) (hr : RG w R l bad) (ht : TrkM bs (gQl bs) l bad) (hh : bad = false → hasB (gK bs) 9 = true) (hby : ByteL bs) :
    Calls Try.prog 47 #[.agg (msgL F (.slice ia ni ic) (.slice none 0 0) (.slice da nd dc)).toArray, .pointer (some ⟨R, 0, none⟩), .int .u8 (ltr 9 : Nat)] w fun e w' => ∃ a n c n' D' l' bad', e = .returned (.agg (msgL F (.slice ia ni ic) (.slice a n c) (.slice da nd dc)).toArray) ∧ RG w' R l' bad' ∧ TrkM bs (gQd bs) l' bad' ∧ OwnL w' w.heap.size (.slice a n c) n' D' ∧ (bad' = false → bad = false ∧ n' = gNl bs ∧ ∀ i, i < n' → D' i = gD bs i ∧ OkG (eBy bs (gQe bs i))) ∧ Rd R w w' := by
  have HQ0 := Lib.hid (rq_start w R F (.slice ia ni ic) (.slice none 0 0) (.slice da nd dc))
  have hR := hr.lt
  have HRG := Lib.hid ((hr.block (Below.heap_alloc w (Obj.cells (msgL F (.slice ia ni ic) (.slice none 0 0) (.slice da nd dc)).toArray 30) R hr.lt)).block (Below.heap_alloc _ (Obj.cells #[.int .i64 0, .int .i64 0, .int .u16 0, .int .u16 0, .int .u32 0, .int .i64 0, .int .i64 0, .int .i64 0, .int .i64 0, .int .i64 0, .int .i64 0, .int .u32 0, .int .u64 0, .slice none 0 0, .slice none 0 0, .slice none 0 0] 30) R (by simp; omega)))
  have HT := Lib.hid ht
  have HH := Lib.hid hh
  clear hr ht hh
  have HBY := Lib.hid hby
  clear hby
  have hl : ((ltr 9 : Nat) : Int) = 108 := rfl
  rw [hl]
  clear hl
  go_enter Try.func47, Try.ntmps47
  go_wp2_with fail
  generalize (w.alloc (Obj.cells (msgL F (.slice ia ni ic) (.slice none 0 0) (.slice da nd dc)).toArray 30)).alloc (Obj.cells #[.int .i64 0, .int .i64 0, .int .u16 0, .int .u16 0, .int .u32 0, .int .i64 0, .int .i64 0, .int .i64 0, .int .i64 0, .int .i64 0, .int .i64 0, .int .u32 0, .int .u64 0, .slice none 0 0, .slice none 0 0, .slice none 0 0] 30) = w1 at *
  have HQe : Hid (bad = false → gQe bs 0 = gQl bs + 1) := Lib.hid (fun h => by unfold gQe; rw [HH.out h]; rfl)
  have HNl : Hid (bad = false → gNl bs = (leV bs (gQl bs) 1).toNat) := Lib.hid (fun h => by unfold gNl; rw [HH.out h]; rfl)
  refine (rInt_trkM R bs l bad (gQl bs) 1 (by decide) w1 HRG.out HT.out (fun h hlt => not_pok_q0 (by rw [HQe.out h]; exact hlt))).mono ?_
  rintro e w2 ⟨v, l1, b1, rfl, hr, ht, hg, hv, hd⟩
  have hv' : 0 ≤ v ∧ v < 256 := hv
  obtain ⟨nN, rfl⟩ : ∃ n : Nat, v = n := ⟨v.toNat, by omega⟩
  have HG : Hid (b1 = false → bad = false ∧ nN = gNl bs) := Lib.hid (fun h => by
    obtain ⟨h0, h1⟩ := hg h
    refine ⟨h0, ?_⟩
    rw [HNl.out h0, ← h1]
    rfl)
  have HT1 : Hid (TrkM bs (gQe bs 0) l1 b1) := Lib.hid (by
    cases b1 with
    | true => exact ht.any _
    | false => rw [HQe.out (hg rfl).1]; exact ht)
  have HQ1 := Lib.hid (HQ0.out.rd hd hR)
  have HRG1 := Lib.hid hr
  have HO1 : Hid (OwnL w2 (w.heap.size + 2) (.slice none 0 0) 0 (gD bs)) := Lib.hid ⟨fun _ => .slice none 0 0, World.ownsRow_nil _ _ _ _, fun i hi => absurd hi (Nat.not_lt_zero _)⟩
  clear hr ht hg hd hv HRG HT HQ0 HQe HNl
  go_wp2_with fail
  go_loopw [10] (fun i wr => ∃ (m : Nat) (a2 : Option Addr) (n2 c2 : Nat) (D2 : Nat → Ent) (l2 : List Int) (bad2 : Bool), m ≤ nN ∧ i = .int .i64 m ∧ RQ w R F (.slice ia ni ic) (.slice a2 n2 c2) (.slice da nd dc) wr ∧ RG wr R l2 bad2 ∧ TrkM bs (gQe bs m) l2 bad2 ∧ OwnL wr (w.heap.size + 2) (.slice a2 n2 c2) m D2 ∧ (bad2 = false → b1 = false ∧ ∀ i, i < m → D2 i = gD bs i ∧ OkG (eBy bs (gQe bs i)))) (fun i _ => nN - (intOf i).toNat)
  case atStart => exact ⟨0, none, 0, 0, gD bs, l1, b1, Nat.zero_le _, rfl, HQ1.out, HRG1.out, HT1.out, HO1.out, fun h => ⟨h, fun i hi => by omega⟩⟩
  case round =>
    obtain ⟨m, a2, n2, c2, D2, l2, bad2, hk, rfl, hq, hr, ht, ho, hgd⟩ := hrel
    clear HQ1 HRG1 HT1 HO1
    have HQ := Lib.hid hq
    have HRG := Lib.hid hr
    have HTk := Lib.hid ht
    have HO := Lib.hid ho
    have HGd := Lib.hid hgd
    have c1 := hr.c1
    clear hq ht ho hgd hr
    by_cases hlt : m < nN
    · have hki : (m : Int) < (nN : Int) := by omega
      cases bad2 with
      | false =>
        have HLt : Hid (m < gNl bs) := Lib.hid (by
          have h1 := (HGd.out rfl).1
          have h2 := (HG.out h1).2
          omega)
        have hm1000 : m ≤ 1000 := by omega
        go_wp2_with fail
        clear c1
        refine (rInt_trkM R bs l2 false (gQe bs m) 2 (by decide) wr HRG.out HTk.out (fun _ h => not_pok_log HLt.out (Or.inl (by omega)))).mono ?_
        rintro e w5 ⟨v, l5, b5, rfl, hr5, ht5, hg5, hv5, hd5⟩
        have hv5' : 0 ≤ v ∧ v < 65536 := hv5
        replace HQ := Lib.hid (HQ.out.rd hd5 hR)
        replace HO := Lib.hid (HO.out.rdW hd5.w (by omega))
        have HRG5 := Lib.hid hr5
        have HT5 := Lib.hid ht5
        have HG5 : Hid (b5 = false → v.toNat = eLen bs (gQe bs m)) := Lib.hid (fun h => by rw [(hg5 h).2]; rfl)
        clear hr5 ht5 hg5 hd5 hv5 HRG HTk
        go_wp2_with fail
        refine (rSome_trkM R bs l5 b5 (gQe bs m + 2) v hv5'.1 w5 HRG5.out HT5.out (fun h hl => not_pok_log HLt.out (Or.inl (by rw [← HG5.out h]; exact hl)))).mono ?_
        rintro e w6 ⟨s, l6, b6, rfl, hr6, ht6, hg6, hgn, hby6, hsl6, hd6⟩
        replace HQ := Lib.hid (HQ.out.rd hd6 hR)
        replace HO := Lib.hid (HO.out.rdW hd6.w (by omega))
        have HRG6 := Lib.hid hr6
        have HT6 : Hid (TrkM bs (gQe bs (m + 1)) l6 b6) := Lib.hid (by
          cases b6 with
          | true => exact ht6.any _
          | false =>
            have h1 := HG5.out (hg6 rfl).1
            rw [h1] at ht6
            exact ht6)
        have HS6 : Hid (b6 = false → s = eBy bs (gQe bs m)) := Lib.hid (fun h => by
          obtain ⟨h1, h2, -⟩ := hg6 h
          rw [h2, HG5.out h1]
          rfl)
        have HSn := Lib.hid hgn
        have HRl : Hid (w.heap.size + 2 ≤ w6.heap.size) := Lib.hid HQ.out.s
        clear hr6 ht6 hg6 hgn hd6 HRG5 HT5 HG5
        go_wp2_with fail
        refine (getRef_any s hby6 hsl6 w6).mono ?_
        rintro e w7 ⟨hpost, hb7⟩
        have HQ7 := Lib.hid (HQ.out.rd (Below.rd hb7 (Nat.le_refl _)) hR)
        have HRG7 := Lib.hid (HRG6.out.block (hb7.block R HRG6.out.lt))
        have HO7 := Lib.hid (HO.out.rdW (Below.rd (R := R) hb7 (Nat.le_refl _)).w (by omega))
        obtain ⟨S0, hrow0, -⟩ := HO.out.ex
        have HBk := Lib.hid (fun g hg => (World.ownsRow.lt hrow0 g hg).2)
        clear hrow0 S0 hb7 HQ HO HRG6 hby6
        rcases hpost with ⟨hok, sv, rfl, hE7⟩ | ⟨hnok, rfl⟩
        · have hb6 : b6 = false := by
            cases b6 with
            | false => rfl
            | true => exact absurd (by rw [HSn.out rfl] at hok; exact hok) not_ok_nil
          subst hb6
          obtain ⟨x, hx⟩ : ∃ x : Ent, x = ⟨gFr s, gN s, gE s, gI s⟩ := ⟨_, rfl⟩
          have HSep : Hid (∀ g, sv.ownBlock = some g → (Value.slice a2 n2 c2).ownBlock ≠ some g) := Lib.hid (fun g hg e => by
            have h2 := (World.ownsRow.lt hE7 g hg).1
            have h3 := HBk.out g e
            omega)
          have HE7 : Hid (OwnE w7 w6.heap.size sv x.n x.E) := Lib.hid (by rw [hx]; exact hE7)
          have hfx : gFr s = x.fr := by rw [hx]
          have hIx : gI s = x.I := by rw [hx]
          rw [hfx, hIx]
          have HTn := HT6
          have HFn : Hid (false = false → b1 = false ∧ ∀ i, i < m + 1 → upD D2 m x i = gD bs i ∧ OkG (eBy bs (gQe bs i))) := Lib.hid (fun _ => by
            obtain ⟨h1, h2⟩ := HGd.out (by first | rfl | trivial)
            refine ⟨h1, fun i hi => ?_⟩
            by_cases e : i = m
            · subst e
              rw [upD_new, hx, HS6.out rfl]
              exact ⟨rfl, by rw [← HS6.out rfl]; exact hok⟩
            · rw [upD_old _ _ _ _ (by omega)]
              exact h2 i (by omega))
          clear hx hfx hIx hE7 HBk HSn HS6 HT6 hok HGd
          have h1e : (entL x.fr sv x.I).toArray.all (·.oneCell') = true := HE7.out.evs.one _ _
          have hst := store_new x.fr sv x.I h1e w7 _ rfl
          have hb8 := (Below.refl w7.heap.size w7).alloc (Nat.le_refl _) (Obj.cells (entL x.fr sv x.I).toArray 37)
          have HX8 := Lib.hid (entAt_new x.fr sv x.I 37 w7)
          have HQ8 := Lib.hid (HQ7.out.rd (Below.rd hb8 (Nat.le_refl _)) hR)
          have hrg8 := HRG7.out.block (hb8.block R HRG7.out.lt)
          have HRG8 := Lib.hid hrg8
          have HO8 := Lib.hid (HO7.out.rdW (Below.rd (R := R) hb8 (Nat.le_refl _)).w (by omega))
          have HE8 := Lib.hid (HE7.out.rdW (Below.rd (R := R) hb8 (Nat.le_refl _)).w (by have := HRl.out; omega))
          have hl7 : R < w7.heap.size := HRG7.out.lt
          have hz8 := zeroEnt
          clear hb8 HQ7 HRG7 HO7 HE7 h1e
          go_upto_region 31 with (fail)
          clear hst hz8
          generalize hw8 : w7.alloc (Obj.cells (entL x.fr sv x.I).toArray 37) = w8 at *
          generalize w7.heap.size = T7 at *
          clear hw8
          have r1 := HRG8.out.c1
          have q1 := HRG8.out.f1
          have hOn := (Only.refl R w8).setCell (p := ⟨R, 1, none⟩) rfl (.bool false)
          have HRG9 := Lib.hid (HRG8.out.setBad false)
          have HQ9 := Lib.hid (HQ8.out.rd hOn.rd hR)
          have HO9 := Lib.hid (HO8.out.rdW hOn.rd.w (by omega))
          have HE9 := Lib.hid (HE8.out.rdW hOn.rd.w (by have := HRl.out; omega))
          have HX9 := Lib.hid (HX8.out.block (hOn.block T7 (by omega)))
          clear hOn HRG8 HQ8 HO8 HE8 HX8
          go_upto_region 32 with (fail)
          clear r1 q1
          generalize w8.setCell ⟨R, 1, none⟩ (.bool false) = w9 at *
          have c14 := HQ9.out.m.c14
          have HDm : Hid (upD D2 m x m = x) := Lib.hid (upD_new D2 m x)
          have HOc := Lib.hid (HO9.out.congr (D' := upD D2 m x) (fun i hi => (upD_old D2 m x i hi).symm))
          go_wp2_with (first | (refine wpList_load_g (op := ⟨some 121, _, _, _, _, _⟩) (by rfl) 37 _ rfl T7 0 rfl _ _ HX9.out.range Try.underlying37 rfl (size_ent _ _ _) ?_) | (refine wpList_bs_entW (o := ⟨some 122, _, _, _, _, _⟩) rfl (.tmp 121) rfl x.fr sv x.I (by first | rfl | simp [Act.eval, Act.put]) ?_) | (refine wpList_app_enW (o := ⟨some 123, _, _, _, _, _⟩) rfl (.tmp 120) (.tmp 122) rfl (w.heap.size + 2) (.slice a2 n2 c2) m (upD D2 m x) HOc.out hm1000 (by first | rfl | simp [Act.eval, Act.put]) HQ9.out.s sv (by rw [HDm.out]; exact HE9.out.mono (by have := HRl.out; omega)) HSep.out (by rw [HDm.out]) (by first | rfl | simp [Act.eval, Act.put]) ?_))
          intro v' w' hO hg hex
          obtain ⟨g, cap, rfl⟩ := hex.out
          obtain ⟨hq', hc', hf', hrg', ho'⟩ := HQ9.out.grewL hR HRG9.out HO9.out hO.out hg.out
          have HQ' := Lib.hid hq'
          have HRG' := Lib.hid hrg'
          have HO' := Lib.hid ho'
          clear hq' hrg' ho' hO hg hex HQ9 HRG9 HO9 HE9 HX9 HOc c14
          go_wp2_with fail
          exact ⟨⟨m + 1, some ⟨g, 0, none⟩, m + 1, cap, upD D2 m x, l6, false, by omega, by go_num, HQ'.out, HRG'.out, HTn.out, HO'.out, fun h => by first | exact HFn.out h | exact HFn.out trivial | cases h⟩, by simp [intOf]; omega⟩
        · have HNP : Hid (¬ POk bs) := Lib.hid (by
            cases b6 with
            | true => exact HT6.out.2.2.2 rfl
            | false => exact not_pok_log HLt.out (Or.inr (by rw [← HS6.out rfl]; exact hnok)))
          obtain ⟨x, hx⟩ : ∃ x : Ent, x = ⟨0, 0, fun _ _ => 0, fun _ => 0⟩ := ⟨_, rfl⟩
          obtain ⟨sv, hsv⟩ : ∃ sv, sv = Value.slice none 0 0 := ⟨_, rfl⟩
          have HSep : Hid (∀ g, sv.ownBlock = some g → (Value.slice a2 n2 c2).ownBlock ≠ some g) := Lib.hid (fun g hg => by rw [hsv] at hg; cases hg)
          have HE7 : Hid (OwnE w7 w6.heap.size sv x.n x.E) := Lib.hid (by rw [hx, hsv]; exact World.ownsRow_nil _ _ _ _)
          have hEx : entL 0 (.slice none 0 0) (fun _ => 0) = entL x.fr sv x.I := by rw [hx, hsv]
          rw [hEx]
          have HTn : Hid (TrkM bs (gQe bs (m + 1)) l6 true) := Lib.hid ⟨HT6.out.1, HT6.out.2.1, fun h => (by cases h), fun _ => HNP.out⟩
          have HFn : Hid (true = false → b1 = false ∧ ∀ i, i < m + 1 → upD D2 m x i = gD bs i ∧ OkG (eBy bs (gQe bs i))) := Lib.hid (fun h => by cases h)
          clear hx hEx hsv HBk HSn HS6 HT6 hnok HGd HNP
          cases b6 with
          | false =>
            have h1e : (entL x.fr sv x.I).toArray.all (·.oneCell') = true := HE7.out.evs.one _ _
            have hst := store_new x.fr sv x.I h1e w7 _ rfl
            have hb8 := (Below.refl w7.heap.size w7).alloc (Nat.le_refl _) (Obj.cells (entL x.fr sv x.I).toArray 37)
            have HX8 := Lib.hid (entAt_new x.fr sv x.I 37 w7)
            have HQ8 := Lib.hid (HQ7.out.rd (Below.rd hb8 (Nat.le_refl _)) hR)
            have hrg8 := HRG7.out.block (hb8.block R HRG7.out.lt)
            have HRG8 := Lib.hid hrg8
            have HO8 := Lib.hid (HO7.out.rdW (Below.rd (R := R) hb8 (Nat.le_refl _)).w (by omega))
            have HE8 := Lib.hid (HE7.out.rdW (Below.rd (R := R) hb8 (Nat.le_refl _)).w (by have := HRl.out; omega))
            have hl7 : R < w7.heap.size := HRG7.out.lt
            have hz8 := zeroEnt
            clear hb8 HQ7 HRG7 HO7 HE7 h1e
            go_upto_region 31 with (fail)
            clear hst hz8
            generalize hw8 : w7.alloc (Obj.cells (entL x.fr sv x.I).toArray 37) = w8 at *
            generalize w7.heap.size = T7 at *
            clear hw8
            have r1 := HRG8.out.c1
            have q1 := HRG8.out.f1
            have hOn := (Only.refl R w8).setCell (p := ⟨R, 1, none⟩) rfl (.bool true)
            have HRG9 := Lib.hid (HRG8.out.setBad true)
            have HQ9 := Lib.hid (HQ8.out.rd hOn.rd hR)
            have HO9 := Lib.hid (HO8.out.rdW hOn.rd.w (by omega))
            have HE9 := Lib.hid (HE8.out.rdW hOn.rd.w (by have := HRl.out; omega))
            have HX9 := Lib.hid (HX8.out.block (hOn.block T7 (by omega)))
            clear hOn HRG8 HQ8 HO8 HE8 HX8
            go_upto_region 32 with (fail)
            clear r1 q1
            generalize w8.setCell ⟨R, 1, none⟩ (.bool true) = w9 at *
            have c14 := HQ9.out.m.c14
            have HDm : Hid (upD D2 m x m = x) := Lib.hid (upD_new D2 m x)
            have HOc := Lib.hid (HO9.out.congr (D' := upD D2 m x) (fun i hi => (upD_old D2 m x i hi).symm))
            go_wp2_with (first | (refine wpList_load_g (op := ⟨some 121, _, _, _, _, _⟩) (by rfl) 37 _ rfl T7 0 rfl _ _ HX9.out.range Try.underlying37 rfl (size_ent _ _ _) ?_) | (refine wpList_bs_entW (o := ⟨some 122, _, _, _, _, _⟩) rfl (.tmp 121) rfl x.fr sv x.I (by first | rfl | simp [Act.eval, Act.put]) ?_) | (refine wpList_app_enW (o := ⟨some 123, _, _, _, _, _⟩) rfl (.tmp 120) (.tmp 122) rfl (w.heap.size + 2) (.slice a2 n2 c2) m (upD D2 m x) HOc.out hm1000 (by first | rfl | simp [Act.eval, Act.put]) HQ9.out.s sv (by rw [HDm.out]; exact HE9.out.mono (by have := HRl.out; omega)) HSep.out (by rw [HDm.out]) (by first | rfl | simp [Act.eval, Act.put]) ?_))
            intro v' w' hO hg hex
            obtain ⟨g, cap, rfl⟩ := hex.out
            obtain ⟨hq', hc', hf', hrg', ho'⟩ := HQ9.out.grewL hR HRG9.out HO9.out hO.out hg.out
            have HQ' := Lib.hid hq'
            have HRG' := Lib.hid hrg'
            have HO' := Lib.hid ho'
            clear hq' hrg' ho' hO hg hex HQ9 HRG9 HO9 HE9 HX9 HOc c14
            go_wp2_with fail
            exact ⟨⟨m + 1, some ⟨g, 0, none⟩, m + 1, cap, upD D2 m x, l6, true, by omega, by go_num, HQ'.out, HRG'.out, HTn.out, HO'.out, fun h => by first | exact HFn.out h | exact HFn.out trivial | cases h⟩, by simp [intOf]; omega⟩
          | true =>
            have h1e : (entL x.fr sv x.I).toArray.all (·.oneCell') = true := HE7.out.evs.one _ _
            have hst := store_new x.fr sv x.I h1e w7 _ rfl
            have hb8 := (Below.refl w7.heap.size w7).alloc (Nat.le_refl _) (Obj.cells (entL x.fr sv x.I).toArray 37)
            have HX8 := Lib.hid (entAt_new x.fr sv x.I 37 w7)
            have HQ8 := Lib.hid (HQ7.out.rd (Below.rd hb8 (Nat.le_refl _)) hR)
            have hrg8 := HRG7.out.block (hb8.block R HRG7.out.lt)
            have HRG8 := Lib.hid hrg8
            have HO8 := Lib.hid (HO7.out.rdW (Below.rd (R := R) hb8 (Nat.le_refl _)).w (by omega))
            have HE8 := Lib.hid (HE7.out.rdW (Below.rd (R := R) hb8 (Nat.le_refl _)).w (by have := HRl.out; omega))
            have hl7 : R < w7.heap.size := HRG7.out.lt
            have hz8 := zeroEnt
            clear hb8 HQ7 HRG7 HO7 HE7 h1e
            go_upto_region 31 with (fail)
            clear hst hz8
            generalize hw8 : w7.alloc (Obj.cells (entL x.fr sv x.I).toArray 37) = w8 at *
            generalize w7.heap.size = T7 at *
            clear hw8
            have r1 := HRG8.out.c1
            have q1 := HRG8.out.f1
            have hOn := (Only.refl R w8).setCell (p := ⟨R, 1, none⟩) rfl (.bool true)
            have HRG9 := Lib.hid (HRG8.out.setBad true)
            have HQ9 := Lib.hid (HQ8.out.rd hOn.rd hR)
            have HO9 := Lib.hid (HO8.out.rdW hOn.rd.w (by omega))
            have HE9 := Lib.hid (HE8.out.rdW hOn.rd.w (by have := HRl.out; omega))
            have HX9 := Lib.hid (HX8.out.block (hOn.block T7 (by omega)))
            clear hOn HRG8 HQ8 HO8 HE8 HX8
            go_upto_region 32 with (fail)
            clear r1 q1
            generalize w8.setCell ⟨R, 1, none⟩ (.bool true) = w9 at *
            have c14 := HQ9.out.m.c14
            have HDm : Hid (upD D2 m x m = x) := Lib.hid (upD_new D2 m x)
            have HOc := Lib.hid (HO9.out.congr (D' := upD D2 m x) (fun i hi => (upD_old D2 m x i hi).symm))
            go_wp2_with (first | (refine wpList_load_g (op := ⟨some 121, _, _, _, _, _⟩) (by rfl) 37 _ rfl T7 0 rfl _ _ HX9.out.range Try.underlying37 rfl (size_ent _ _ _) ?_) | (refine wpList_bs_entW (o := ⟨some 122, _, _, _, _, _⟩) rfl (.tmp 121) rfl x.fr sv x.I (by first | rfl | simp [Act.eval, Act.put]) ?_) | (refine wpList_app_enW (o := ⟨some 123, _, _, _, _, _⟩) rfl (.tmp 120) (.tmp 122) rfl (w.heap.size + 2) (.slice a2 n2 c2) m (upD D2 m x) HOc.out hm1000 (by first | rfl | simp [Act.eval, Act.put]) HQ9.out.s sv (by rw [HDm.out]; exact HE9.out.mono (by have := HRl.out; omega)) HSep.out (by rw [HDm.out]) (by first | rfl | simp [Act.eval, Act.put]) ?_))
            intro v' w' hO hg hex
            obtain ⟨g, cap, rfl⟩ := hex.out
            obtain ⟨hq', hc', hf', hrg', ho'⟩ := HQ9.out.grewL hR HRG9.out HO9.out hO.out hg.out
            have HQ' := Lib.hid hq'
            have HRG' := Lib.hid hrg'
            have HO' := Lib.hid ho'
            clear hq' hrg' ho' hO hg hex HQ9 HRG9 HO9 HE9 HX9 HOc c14
            go_wp2_with fail
            exact ⟨⟨m + 1, some ⟨g, 0, none⟩, m + 1, cap, upD D2 m x, l6, true, by omega, by go_num, HQ'.out, HRG'.out, HTn.out, HO'.out, fun h => by first | exact HFn.out h | exact HFn.out trivial | cases h⟩, by simp [intOf]; omega⟩
      | true =>
        have HTf := Lib.hid (TrkM.any (gQd bs) HTk.out)
        have HFin : Hid (true = false → bad = false ∧ m = gNl bs ∧ ∀ i, i < m → D2 i = gD bs i ∧ OkG (eBy bs (gQe bs i))) := Lib.hid (fun h => by cases h)
        obtain ⟨bad2, hb2⟩ : ∃ b, b = true := ⟨_, rfl⟩
        rw [← hb2] at HFin HTf HRG
        clear hb2 HGd HTk
        have HZ : Hid (wr.there (w.heap.size + 1) 0 (msgL F (.slice ia ni ic) (.slice a2 n2 c2) (.slice da nd dc)).toArray.size) := Lib.hid (msg_there _ _ _ _ HQ.out.z)
        go_wp2_with (first | (refine wpList_load_g (op := ⟨some 125, _, _, _, _, _⟩) (by rfl) 30 _ rfl w.heap.size 0 rfl _ _ HQ.out.m.range Try.underlying30 rfl (size_msg _ _ _ _) ?_) | (refine wpList_store_mid (op := ⟨none, Op.store 30 (.tmp 6) (.tmp 125), _, _, _, _⟩) rfl 30 _ _ rfl (w.heap.size + 1) 0 (msgL F (.slice ia ni ic) (.slice a2 n2 c2) (.slice da nd dc)).toArray rfl rfl HZ.out (by have e : (msgL F (.slice ia ni ic) (.slice a2 n2 c2) (.slice da nd dc)).toArray.size = (msgL F (.slice ia ni ic) (.slice a2 n2 c2) (.slice da nd dc)).length := List.size_toArray; rw [e]; exact size_msg _ _ _ _) (msg_one _ _ _ _ _ _ _ _ _ _) ?_))
        obtain ⟨hm, hrd, hrw⟩ := HQ.out.fin
        refine bodyPost_ret (results_rd _ _ (w.heap.size + 1) rfl hm) rfl ?_
        exact ⟨a2, n2, c2, m, D2, l2, bad2, rfl, HRG.out.rdW hrw (by omega), HTf.out, ((HO.out.rdW hrw (by omega)).mono (by omega)), HFin.out, hrd⟩
    · obtain rfl : m = nN := by omega
      have HTf : Hid (TrkM bs (gQd bs) l2 bad2) := Lib.hid (by
        cases bad2 with
        | true => exact HTk.out.any _
        | false =>
          have h1 := (HGd.out rfl).1
          have h2 := (HG.out h1).2
          unfold gQd
          rw [← h2]
          exact HTk.out)
      have HFin : Hid (bad2 = false → bad = false ∧ m = gNl bs ∧ ∀ i, i < m → D2 i = gD bs i ∧ OkG (eBy bs (gQe bs i))) := Lib.hid (fun h => by
        obtain ⟨h1, h2⟩ := HGd.out h
        obtain ⟨h3, h4⟩ := HG.out h1
        exact ⟨h3, h4, h2⟩)
      clear HGd HTk
      have HZ : Hid (wr.there (w.heap.size + 1) 0 (msgL F (.slice ia ni ic) (.slice a2 n2 c2) (.slice da nd dc)).toArray.size) := Lib.hid (msg_there _ _ _ _ HQ.out.z)
      go_wp2_with (first | (refine wpList_load_g (op := ⟨some 125, _, _, _, _, _⟩) (by rfl) 30 _ rfl w.heap.size 0 rfl _ _ HQ.out.m.range Try.underlying30 rfl (size_msg _ _ _ _) ?_) | (refine wpList_store_mid (op := ⟨none, Op.store 30 (.tmp 6) (.tmp 125), _, _, _, _⟩) rfl 30 _ _ rfl (w.heap.size + 1) 0 (msgL F (.slice ia ni ic) (.slice a2 n2 c2) (.slice da nd dc)).toArray rfl rfl HZ.out (by have e : (msgL F (.slice ia ni ic) (.slice a2 n2 c2) (.slice da nd dc)).toArray.size = (msgL F (.slice ia ni ic) (.slice a2 n2 c2) (.slice da nd dc)).length := List.size_toArray; rw [e]; exact size_msg _ _ _ _) (msg_one _ _ _ _ _ _ _ _ _ _) ?_))
      obtain ⟨hm, hrd, hrw⟩ := HQ.out.fin
      refine bodyPost_ret (results_rd _ _ (w.heap.size + 1) rfl hm) rfl ?_
      exact ⟨a2, n2, c2, m, D2, l2, bad2, rfl, HRG.out.rdW hrw (by omega), HTf.out, ((HO.out.rdW hrw (by omega)).mono (by omega)), HFin.out, hrd⟩
end Go.Proofs.Ytembppihfcclcaa
