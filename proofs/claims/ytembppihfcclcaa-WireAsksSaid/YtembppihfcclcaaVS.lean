/-
  Wire: the reference's Get.
-/
import Derived.Test.YtembppihfcclcaaG31x
import Derived.Test.YtembppihfcclcaaVG
import Derived.Test.YtembppihfcclcaaMU
import Derived.Deep.DeepCutAuto
namespace Go.Proofs.Ytembppihfcclcaa
set_option linter.unusedVariables false
open Go.ChangeShapes Go.WideShapes Go.ChangeAt Go.RowKit

set_option linter.unusedSimpArgs false
theorem results_g21 (tmps : Array Value) (w : World) (b : Nat) (x : Int) (h2 : tmps.getD 2 undef = .pointer (some ⟨b, 0, none⟩)) (h3 : tmps.getD 3 undef = .int .i64 x) {F : Nat → Int} {iv lv dv : Value} (he : MsgAt w b F iv lv dv) :
    (results Try.f21 tmps).run Try.prog w = .ok (.tuple #[.agg (msgL F iv lv dv).toArray, .int .i64 x]) w := by
  have hl := run_loadVar_mid (P := Try.prog) w b 0 30 (msgL F iv lv dv) _ he.range Try.underlying30 rfl (size_msg F iv lv dv)
  have h2' : tmps[2]?.getD undef = .pointer (some ⟨b, 0, none⟩) := by simpa using h2
  have h3' : tmps[3]?.getD undef = .int .i64 x := by simpa using h3
  simp [results, Try.results21, h2', h3', asAddr, hl]
theorem there_setAll {w : World} {b : Nat} {F : Nat → Int} {iv lv dv : Value} (h : w.there b 0 16) : (w.setCells b 0 (msgL F iv lv dv)).there b 0 16 := fun j hj => by
  have h1 := (msgAt_stored h F iv lv dv).cell j hj
  have h2 := (h j hj).2
  rw [Nat.zero_add] at h2 ⊢
  exact ⟨by rw [h1]; rfl, by rw [World.frozen?_setCells]; exact h2⟩
def kF1 (v : Int) : Nat → Int := fun k => if k = 0 then v else 0
theorem build_k1 (v : Int) (w : World) : (Instr.build 30 #[(0, .int .i64 v)]).run Try.prog w = .ok (.agg (msgL (kF1 v) (.slice none 0 0) (.slice none 0 0) (.slice none 0 0)).toArray) w := by kernel_rfl
/-- Where the reference's Get stands: the result's block, the message at block T. -/
structure GR (w : World) (R T : Nat) (F : Nat → Int) (iv lv dv : Value) (wr : World) : Prop where
  z : wr.there w.heap.size 0 16
  m : MsgAt wr T F iv lv dv
  th : wr.there T 0 16
  g0 : w.heap.size < R
  g : R < T
  bel : Below w.heap.size w wr
section
variable {w wr w' : World} {R T : Nat} {F F' : Nat → Int} {iv lv dv iv' lv' dv' : Value}
theorem GR.rd (h : GR w R T F iv lv dv wr) (hd : Rd R wr w') : GR w R T F iv lv dv w' := by
  have h1 := h.g0
  have h2 := h.g
  have hl := h.m.lt
  exact ⟨there_block h.z (hd.block _ (by omega) (by omega)), h.m.block (hd.block _ hl (by omega)), there_block h.th (hd.block _ hl (by omega)), h1, h2, h.bel.trans (hd.below (by omega) (by omega))⟩
theorem GR.num (h : GR w R T F iv lv dv wr) (k : Nat) (hk : k < 13) (v : Int) : GR w R T (uW F k v) iv lv dv (wr.setCell ⟨T, k, none⟩ (.int (Ytembppihfcclcaa.mk k) v)) := by
  have h1 := h.g0
  have h2 := h.g
  have hO := (Only.refl T wr).setCell (p := ⟨T, k, none⟩) rfl (.int (Ytembppihfcclcaa.mk k) v)
  exact ⟨there_block h.z (hO.block _ (by omega)), h.m.upW k hk v, there_setW h.th, h1, h2, h.bel.trans (hO.below (by omega))⟩
theorem GR.put (h : GR w R T F iv lv dv wr) (F' : Nat → Int) (iv' lv' dv' : Value) : GR w R T F' iv' lv' dv' (wr.setCells T 0 (msgL F' iv' lv' dv')) := by
  have h1 := h.g0
  have h2 := h.g
  have hb := rdW_set T (msgL F' iv' lv' dv') wr
  exact ⟨there_block h.z (setCells_other T _ (by omega) _ _ _), msgAt_stored h.th F' iv' lv' dv', there_setAll h.th, h1, h2, below_setCells T (by omega) _ _ h.bel⟩
theorem GR.fz (h : GR w R T F iv lv dv wr) (k : Nat) (hk : k < 16) : wr.frozen? ⟨T, k, none⟩ = false := by have := (h.th k hk).2; rwa [Nat.zero_add] at this
end
theorem gr_start {w w3 : World} {R : Nat} (hz : w3.there w.heap.size 0 16) (h0 : w.heap.size < R) (hR : R < w3.heap.size) (hb : Below w.heap.size w w3) (F : Nat → Int) :
    GR w R w3.heap.size F (.slice none 0 0) (.slice none 0 0) (.slice none 0 0) (w3.alloc (Obj.cells (msgL F (.slice none 0 0) (.slice none 0 0) (.slice none 0 0)).toArray 30)) := by
  have e : (msgL F (.slice none 0 0) (.slice none 0 0) (.slice none 0 0)).toArray.size = 16 := by rw [List.size_toArray, msgL_len]
  exact ⟨there_block hz (Below.heap_alloc _ _ _ (by omega)), msgAt_new F _ _ _ 30 w3, there_alloc_lit _ _ _ _ (by rw [e]; exact Nat.le_refl _), h0, hR, hb.alloc (by omega) _⟩
theorem step_ldW {ops : Array Oper} {op : Oper} {a : Act} {w : World} {K : Act → World → Prop} {Q : Exit → Act → World → Prop} {E' : Prop} (hg : op.guard = none) (x : Operand) (ho : op.op = .load 30 x) (b : Nat) (F : Nat → Int) (iv lv dv : Value) (hx : a.eval x = .pointer (some ⟨b, 0, none⟩)) (hA : MsgAt w b F iv lv dv)
    (h : K (a.put op.dst (.agg (msgL F iv lv dv).toArray)) w) :
    if Region.wanted op (yielded ops a.tmps) = true then Oper.wp Try.prog op a w K Q else E' := by
  rw [if_pos (by simp [Region.wanted, hg])]
  exact wp_load_mid 30 x ho b 0 hx _ _ hA.range Try.underlying30 rfl (size_msg _ _ _ _) h
theorem step_stW {ops : Array Oper} {op : Oper} {a : Act} {w : World} {K : Act → World → Prop} {Q : Exit → Act → World → Prop} {E' : Prop} (hg : op.guard = none) (x y : Operand) (ho : op.op = .store 30 x y) (b : Nat) (F : Nat → Int) (iv lv dv : Value) (hx : a.eval x = .pointer (some ⟨b, 0, none⟩)) (hy : a.eval y = .agg (msgL F iv lv dv).toArray) (ht : w.there b 0 16) (h1 : (msgL F iv lv dv).toArray.all (·.oneCell') = true)
    (h : K (a.put op.dst undef) (w.setCells b 0 (msgL F iv lv dv))) :
    if Region.wanted op (yielded ops a.tmps) = true then Oper.wp Try.prog op a w K Q else E' := by
  rw [if_pos (by simp [Region.wanted, hg])]
  refine wp_store_mid 30 x y ho b 0 (msgL F iv lv dv).toArray hx hy (msg_there F iv lv dv ht) ?_ h1 h
  have e : (msgL F iv lv dv).toArray.size = (msgL F iv lv dv).length := List.size_toArray
  rw [e]
  exact size_msg _ _ _ _
theorem gF_ge (bs : List Int) (k : Nat) (hk : 5 ≤ k) : gF bs k = gV bs (k - 5) := by
  unfold gF
  rw [if_neg (by omega), if_neg (by omega), if_neg (by omega), if_neg (by omega), if_neg (by omega)]
theorem SM.fin {bs : List Int} {K : Int} {n : Nat} {F : Nat → Int} {iv lv dv : Value} {l : List Int} {B : Nat} {w : World} (h : SM bs K n F iv lv dv l false B w) (he : nx K n = 11) : (∀ k, k < 13 → F k = gF bs k) ∧ (∀ i, i < gNl bs → OkG (eBy bs (gQe bs i))) ∧ OwnI w B iv (gNi bs) (gIn bs) ∧ OwnL w B lv (gNl bs) (gD bs) ∧ BytesN w B dv (gDt bs) ∧ l = bs.drop (gEnd bs) ∧ gEnd bs ≤ bs.length := by
  refine ⟨fun k hk => ?_, h.go rfl (by omega), ?_, ?_, ?_, ?_⟩
  · by_cases h5 : k < 5
    · exact h.gh rfl k h5
    · have := h.gn rfl (k - 5) (by omega)
      rw [if_pos (by omega), show 5 + (k - 5) = k by omega] at this
      rw [this, gF_ge _ _ (by omega)]
  · have := h.gi rfl
    rwa [if_pos (by omega)] at this
  · have := h.gl rfl
    rwa [if_pos (by omega)] at this
  · have := h.gd rfl
    rwa [if_pos (by omega)] at this
  · have := h.t.2.2.1 rfl
    rwa [he] at this
theorem sm_start (b : List Int) (v0 v1 v2 v3 v4 : Int) (l : List Int) (bad : Bool) (B : Nat) (w : World) (ht : TrkM b 10 l bad) (hv : bad = false → v0 = leV b 0 1 ∧ v1 = leV b 1 1 ∧ v2 = leV b 2 2 ∧ v3 = leV b 4 2 ∧ v4 = leV b 6 4) :
    SM b v0 0 (uW (uW (uW (uW (kF1 v0) 1 v1) 2 v2) 3 v3) 4 v4) (.slice none 0 0) (.slice none 0 0) (.slice none 0 0) l bad B w := by
  have hk : bad = false → v0 = gK b := fun e => (hv e).1
  refine ⟨⟨_, _, _, rfl⟩, ⟨_, _, _, rfl⟩, ⟨_, _, _, rfl⟩, rfl, ?_, fun _ => rfl, fun _ => rfl, hk, fun e k hk5 => ?_, fun e j hj => ?_, fun e => ?_, fun e => ?_, fun e h9 i hi => ?_, fun e => ?_⟩
  · cases bad with
    | true => exact ht.any _
    | false =>
      have := gSt_to (bs := b) (a := 0) (b := nx v0 0) (Nat.zero_le _) (nx_le _ _) (fun j _ h2 => by rw [← hk rfl]; exact nx_zero v0 j h2)
      rw [this]
      exact ht
  · obtain ⟨e0, e1, e2, e3, e4⟩ := hv e
    rcases (by omega : k = 0 ∨ k = 1 ∨ k = 2 ∨ k = 3 ∨ k = 4) with rfl | rfl | rfl | rfl | rfl
    · exact e0
    · exact e1
    · exact e2
    · exact e3
    · exact e4
  · rw [uW_ne _ _ _ _ (by omega), uW_ne _ _ _ _ (by omega), uW_ne _ _ _ _ (by omega), uW_ne _ _ _ _ (by omega)]
    have e5 : kF1 v0 (5 + j) = 0 := by unfold kF1; rw [if_neg (by omega)]
    rw [e5]
    by_cases h : j < nx v0 0
    · rw [if_pos h]
      unfold gV
      rw [← hk e, nx_zero v0 j h]
      rfl
    · rw [if_neg h]
  · by_cases h : 8 < nx v0 0
    · have e0 : gNi b = 0 := by unfold gNi; rw [← hk e, nx_zero v0 8 h]; rfl
      rw [if_pos h, e0]
      exact World.ownsRow_nil _ _ _ _
    · rw [if_neg h]
      exact World.ownsRow_nil _ _ _ _
  · have hn : ∀ D, OwnL w B (.slice none 0 0) 0 D := fun D => ⟨fun _ => .slice none 0 0, World.ownsRow_nil _ _ _ _, fun i hi => absurd hi (Nat.not_lt_zero _)⟩
    by_cases h : 9 < nx v0 0
    · have e0 : gNl b = 0 := by unfold gNl; rw [← hk e, nx_zero v0 9 h]; rfl
      rw [if_pos h, e0]
      exact hn _
    · rw [if_neg h]
      exact hn _
  · have e0 : gNl b = 0 := by unfold gNl; rw [← hk e, nx_zero v0 9 h9]; rfl
    omega
  · have hn : BytesN w B (.slice none 0 0) [] := ⟨none, 0, rfl, Nat.le_refl _, Nat.zero_le _, fun h => absurd h (Nat.lt_irrefl 0)⟩
    by_cases h : 10 < nx v0 0
    · have e0 : gNd b = 0 := by unfold gNd; rw [← hk e, nx_zero v0 10 h]; rfl
      have e1 : gDt b = [] := by unfold gDt; rw [e0]; rfl
      rw [if_pos h, e1]
      exact hn
    · rw [if_neg h]
      exact hn
set_option maxRecDepth 100000 in
set_option maxHeartbeats 8000000 in
theorem getRefM_any (bs : List Int) (hby : ByteL bs) (hlen : bs.length ≤ 1000000) (w : World) :
    Calls Try.prog 21 #[.string (strOfNums bs)] w fun e w' => GetQ bs e w' ∧ Below w.heap.size w w' := by
  have HZ0 := Lib.hid (there_msgZ w)
  have HB0 := Lib.hid ((Below.refl w.heap.size w).alloc (Nat.le_refl _) (Obj.cells #[.int .i64 0, .int .i64 0, .int .u16 0, .int .u16 0, .int .u32 0, .int .i64 0, .int .i64 0, .int .i64 0, .int .i64 0, .int .i64 0, .int .i64 0, .int .u32 0, .int .u64 0, .slice none 0 0, .slice none 0 0, .slice none 0 0] 30))
  have hs0 : (w.alloc (Obj.cells #[.int .i64 0, .int .i64 0, .int .u16 0, .int .u16 0, .int .u32 0, .int .i64 0, .int .i64 0, .int .i64 0, .int .i64 0, .int .i64 0, .int .i64 0, .int .u32 0, .int .u64 0, .slice none 0 0, .slice none 0 0, .slice none 0 0] 30)).heap.size = w.heap.size + 1 := by simp
  have hsz : ((strOfNums bs).size : Int) = bs.length := by rw [strOfNums_size]
  have HBY := Lib.hid hby
  clear hby
  go_enter Try.func21, Try.ntmps21
  go_upto_region 1 with (fail)
  generalize w.alloc (Obj.cells #[.int .i64 0, .int .i64 0, .int .u16 0, .int .u16 0, .int .u32 0, .int .i64 0, .int .i64 0, .int .i64 0, .int .i64 0, .int .i64 0, .int .i64 0, .int .u32 0, .int .u64 0, .slice none 0 0, .slice none 0 0, .slice none 0 0] 30) = w1 at *
  by_cases h4 : bs.length < 4
  · have hl4 : ((strOfNums bs).size : Int) < 4 := by omega
    have hl5 : (bs.length : Int) < 4 := by omega
    have HNS : Hid (¬ SumOk bs) := Lib.hid (fun h => by have := h.1; omega)
    refine wp_region_quiet_below (by kernel_rfl) (by kernel_rfl) ?_
    repeat (go_big_quiet_step (fail))
    refine wpQuiet_nil ?_
    intro w10 hw'
    obtain ⟨⟨nq, osq⟩, hw3⟩ := hw'
    have bq := below_regrown w1 nq osq
    rw [← hw3] at bq
    have HZ := Lib.hid (there_block HZ0.out (bq.block _ (by omega)))
    have HB := Lib.hid (HB0.out.trans (bq.mono HB0.out.size))
    clear hw3 bq
    have H2 : Hid (w10.there w.heap.size 0 zL.toArray.size) := Lib.hid (msg_there _ _ _ _ HZ.out)
    have HM2 := Lib.hid (msgAt_stored HZ.out zF (.slice none 0 0) (.slice none 0 0) (.slice none 0 0))
    have HB2 := Lib.hid (below_setCells w.heap.size (Nat.le_refl _) zL 0 HB.out)
    go_wp2_with (first | (refine wpList_build_gen (o := ⟨some 21, _, _, _, _, _⟩) _ _ zL (by rfl) rfl rfl (build_msg0 _) ?_) | (refine wpList_store_mid (op := ⟨none, Op.store 30 (.tmp 2) (.tmp 21), _, _, _, _⟩) rfl 30 _ _ rfl w.heap.size 0 zL.toArray rfl rfl H2.out (by have e : zL.toArray.size = zL.length := List.size_toArray; rw [e]; exact size_msg _ _ _ _) zL_one ?_))
    refine bodyPost_ret (results_g21 _ _ w.heap.size 9 rfl rfl HM2.out) rfl ?_
    exact ⟨Or.inl ⟨HNS.out, rfl⟩, HB2.out⟩
  have hl4 : ¬ ((strOfNums bs).size : Int) < 4 := by omega
  have hl5 : ¬ (bs.length : Int) < 4 := by omega
  have hcrc := crc_lt (bs.drop 4) (HBY.out.dropE 4) (bs.drop 4).length
  have HCh : Hid (∀ w, Calls Try.prog 19 #[.string (strOfNums (bs.drop 4))] w fun e w' => e = .returned (.int .u32 (crc (bs.drop 4) (bs.drop 4).length : Nat)) ∧ Below w.heap.size w w') := Lib.hid (fun w => (checkRef_any (bs.drop 4) w (HBY.out.dropE 4) (by rw [List.length_drop]; omega)).mono (fun e w' h => by
    obtain ⟨h1, h2⟩ := h
    subst h2
    exact ⟨h1, Below.refl _ _⟩))
  have HNm : Hid (∀ w, Calls Try.prog 18 #[.int .u64 ((crc (bs.drop 4) (bs.drop 4).length : Nat) : Int), .int .i64 4] w fun e w' => e = .returned (.string (strOfNums (leB ((crc (bs.drop 4) (bs.drop 4).length : Nat) : Int) 4))) ∧ Below w.heap.size w w') := Lib.hid (fun w => numW_any _ 4 (by omega) (by decide) w)
  have hu0 : ∀ c : Nat, c < 4294967296 → IntKind.u64.wrap (c : Int) = (c : Int) := fun c hc => by simp [IntKind.wrap, IntKind.bits, IntKind.signed]; omega
  have hu := hu0 _ hcrc
  clear hu0
  obtain ⟨sb, hsb⟩ : ∃ sb : Bool, (sb = true ↔ SumOk bs) := by
    by_cases h : SumOk bs
    · exact ⟨true, by simp [h]⟩
    · exact ⟨false, by simp [h]⟩
  have hcmp : ((strOfNums (leB ((crc (bs.drop 4) (bs.drop 4).length : Nat) : Int) 4)).toList == (strOfNums (bs.take 4)).toList) = sb := by
    rw [str_eq (by rw [byteL_iff]; exact leB_by _ _) (by rw [byteL_iff]; exact fun x hx => byteL_iff.1 HBY.out x (List.mem_of_mem_take hx))]
    rw [Bool.eq_iff_iff, decide_eq_true_eq, hsb]
    exact sum_iff HBY.out (by omega)
  generalize ((crc (bs.drop 4) (bs.drop 4).length : Nat) : Int) = cc at *
  have hd := str_drop bs 4
  have htk := str_take bs 4
  clear hcrc
  refine wp_region_quiet_below (by kernel_rfl) (by kernel_rfl) ?_
  iterate 6 (go_big_quiet_step (fail))
  go_big_quiet_step (exact Calls.regrown_of (HCh.out _))
  go_big_quiet_step (fail)
  go_big_quiet_step (exact Calls.regrown_of (HNm.out _))
  repeat (go_big_quiet_step (fail))
  refine wpQuiet_nil ?_
  intro w10 hw'
  obtain ⟨⟨nq, osq⟩, hw3⟩ := hw'
  have bq := below_regrown w1 nq osq
  rw [← hw3] at bq
  have HZ := Lib.hid (there_block HZ0.out (bq.block _ (by omega)))
  have HB := Lib.hid (HB0.out.trans (bq.mono HB0.out.size))
  have hs10 : w.heap.size + 1 ≤ w10.heap.size := by have := bq.size; omega
  clear hw3 bq HCh HNm hu hcmp HZ0 HB0 htk
  cases sb with
  | false =>
    have HNS : Hid (¬ SumOk bs) := Lib.hid (by simpa using hsb)
    clear hsb
    have H2 : Hid (w10.there w.heap.size 0 zL.toArray.size) := Lib.hid (msg_there _ _ _ _ HZ.out)
    have HM2 := Lib.hid (msgAt_stored HZ.out zF (.slice none 0 0) (.slice none 0 0) (.slice none 0 0))
    have HB2 := Lib.hid (below_setCells w.heap.size (Nat.le_refl _) zL 0 HB.out)
    go_wp2_with (first | (refine wpList_build_gen (o := ⟨some 21, _, _, _, _, _⟩) _ _ zL (by rfl) rfl rfl (build_msg0 _) ?_) | (refine wpList_store_mid (op := ⟨none, Op.store 30 (.tmp 2) (.tmp 21), _, _, _, _⟩) rfl 30 _ _ rfl w.heap.size 0 zL.toArray rfl rfl H2.out (by have e : zL.toArray.size = zL.length := List.size_toArray; rw [e]; exact size_msg _ _ _ _) zL_one ?_))
    refine bodyPost_ret (results_g21 _ _ w.heap.size 9 rfl rfl HM2.out) rfl ?_
    exact ⟨Or.inl ⟨HNS.out, rfl⟩, HB2.out⟩
  | true =>
    have HSm : Hid (SumOk bs) := Lib.hid (by simpa using hsb)
    clear hsb
    by_cases hbig : 1200 < bs.length
    · have hb2 : (1200 : Int) < ((strOfNums bs).size : Int) := by omega
      have HNo : Hid (¬ OkM bs) := Lib.hid (fun h => by have := ((okM_iff HBY.out HSm.out).1 h).1; omega)
      have H2 : Hid (w10.there w.heap.size 0 zL.toArray.size) := Lib.hid (msg_there _ _ _ _ HZ.out)
      have HM2 := Lib.hid (msgAt_stored HZ.out zF (.slice none 0 0) (.slice none 0 0) (.slice none 0 0))
      have HB2 := Lib.hid (below_setCells w.heap.size (Nat.le_refl _) zL 0 HB.out)
      go_wp2_with (first | (refine wpList_build_gen (o := ⟨some 25, _, _, _, _, _⟩) _ _ zL (by rfl) rfl rfl (build_msg0 _) ?_) | (refine wpList_store_mid (op := ⟨none, Op.store 30 (.tmp 2) (.tmp 25), _, _, _, _⟩) rfl 30 _ _ rfl w.heap.size 0 zL.toArray rfl rfl H2.out (by have e : zL.toArray.size = zL.length := List.size_toArray; rw [e]; exact size_msg _ _ _ _) zL_one ?_))
      refine bodyPost_ret (results_g21 _ _ w.heap.size 2 rfl rfl HM2.out) rfl ?_
      exact ⟨Or.inr (Or.inl ⟨HSm.out, HNo.out, rfl⟩), HB2.out⟩
    have hb2 : ¬ (1200 : Int) < ((strOfNums bs).size : Int) := by omega
    have HOk := Lib.hid (okM_iff HBY.out HSm.out)
    have HBb := Lib.hid (HBY.out.dropE 4)
    have hbl : (bs.drop 4).length ≤ 1000000 := by rw [List.length_drop]; omega
    have HRG0 := Lib.hid (RG.new w10 (bs.drop 4) _ rfl)
    have hb11 := (Below.refl w10.heap.size w10).alloc (Nat.le_refl _) (Obj.cells #[.string (strOfNums (bs.drop 4)), .bool false] 85)
    have HZ1 := Lib.hid (there_block HZ.out (hb11.block _ (by omega)))
    have HB1 := Lib.hid (HB.out.trans (hb11.mono (by omega)))
    have HT0 : Hid (TrkM (bs.drop 4) 0 (bs.drop 4) false) := Lib.hid ⟨HBb.out, hbl, fun _ => ⟨rfl, Nat.zero_le _⟩, fun h => (by cases h)⟩
    clear hb11 HZ HB hbl
    go_upto_region 6 with (fail)
    generalize hw11 : w10.alloc (Obj.cells #[.string (strOfNums (bs.drop 4)), .bool false] 85) = w11 at *
    clear hw11 hd hl4 hl5 hb2 hsz
    have hR0 : w.heap.size < w10.heap.size := by omega
    generalize w10.heap.size = R at *
    clear hs10 hs0
    generalize hbb : bs.drop 4 = b at *
    go_wp2_with fail
    refine (rInt_trkM R b b false 0 1 (by decide) w11 HRG0.out HT0.out (fun _ h => not_pok_hd (by omega))).mono ?_
    rintro e w3 ⟨v0, l0, b0, rfl, hr, ht, hg, hv, hd⟩
    have hv0 : 0 ≤ v0 ∧ v0 < 256 := hv
    have HT := Lib.hid ht
    have HV0 : Hid (b0 = false → v0 = leV b 0 1) := Lib.hid (fun h => (hg h).2)
    have hR3 := hr.lt
    have HGr := Lib.hid (gr_start (there_block HZ1.out (hd.block w.heap.size (by have := HRG0.out.lt; omega) (by omega))) hR0 hR3 (HB1.out.trans (hd.below (by omega) (by have := HRG0.out.lt; omega))) (kF1 v0))
    have HRG := Lib.hid (hr.block (Below.heap_alloc w3 (Obj.cells (msgL (kF1 v0) (.slice none 0 0) (.slice none 0 0) (.slice none 0 0)).toArray 30) R hr.lt))
    clear hr ht hg hd hv HRG0 HT0 HZ1 HB1
    go_upto_region 7 with (first | (refine wpList_build_gen (o := ⟨some 32, _, _, _, _, _⟩) _ _ (msgL (kF1 v0) (.slice none 0 0) (.slice none 0 0) (.slice none 0 0)) (by rfl) rfl rfl (build_k1 v0 _) ?_) | (refine wpList_store_msg (op := ⟨none, Op.store 30 (.tmp 5) (.tmp 32), _, _, _, _⟩) rfl _ _ rfl (kF1 v0) (.slice none 0 0) (.slice none 0 0) (.slice none 0 0) (nil_one _) w3 w3.heap.size rfl (by first | rfl | simp [Act.eval, Act.put]) (by first | rfl | simp [Act.eval, Act.put]) ?_))
    generalize w3.alloc (Obj.cells (msgL (kF1 v0) (.slice none 0 0) (.slice none 0 0) (.slice none 0 0)).toArray 30) = w4 at *
    generalize w3.heap.size = T at *
    clear hR3
    go_wp2_with fail
    refine (rInt_trkM R b l0 b0 1 1 (by decide) w4 HRG.out HT.out (fun _ h => not_pok_hd (by omega))).mono ?_
    rintro e w5 ⟨v1, l1, b1, rfl, hr, ht, hg, hv, hd⟩
    have hv1 : 0 ≤ v1 ∧ v1 < 256 := hv
    replace HGr := Lib.hid (HGr.out.rd hd)
    have cc := HGr.out.m.c1
    have ff := HGr.out.fz 1 (by decide)
    have HG2 : Hid (GR w R T (uW (kF1 v0) 1 v1) (.slice none 0 0) (.slice none 0 0) (.slice none 0 0) (w5.setCell ⟨T, 1, none⟩ (.int .i64 v1))) := Lib.hid (HGr.out.num 1 (by decide) v1)
    have hlt0 := HGr.out.g
    have HRG2 := Lib.hid (hr.block (setCell_block (w := w5) (b := T) (j := 1) (u := .int .i64 v1) (by omega)))
    have HT2 := Lib.hid ht
    have HV1 : Hid (b1 = false → b0 = false ∧ v1 = leV b 1 1) := Lib.hid hg
    clear hr ht hg hd hv HGr HRG HT
    have HGr := HG2
    have HRG := HRG2
    have HT := HT2
    clear HG2 HRG2 HT2
    go_upto_region 8 with (fail)
    clear cc ff
    generalize w5.setCell ⟨T, 1, none⟩ (.int .i64 v1) = w6 at *
    go_wp2_with fail
    refine (rNum_trkM R b l1 b1 2 2 (by decide) w6 HRG.out HT.out (fun _ h => not_pok_hd (by omega))).mono ?_
    rintro e w7 ⟨v2, l2, b2, rfl, hr, ht, hg, hv, hd⟩
    have hv2 : 0 ≤ v2 ∧ v2 < 65536 := hv
    have hw2 : IntKind.u16.wrap v2 = v2 := by simp [IntKind.wrap, IntKind.bits, IntKind.signed]; omega
    replace HGr := Lib.hid (HGr.out.rd hd)
    have cc := HGr.out.m.c2
    have ff := HGr.out.fz 2 (by decide)
    have HG2 : Hid (GR w R T (uW (uW (kF1 v0) 1 v1) 2 v2) (.slice none 0 0) (.slice none 0 0) (.slice none 0 0) (w7.setCell ⟨T, 2, none⟩ (.int .u16 v2))) := Lib.hid (HGr.out.num 2 (by decide) v2)
    have hlt0 := HGr.out.g
    have HRG2 := Lib.hid (hr.block (setCell_block (w := w7) (b := T) (j := 2) (u := .int .u16 v2) (by omega)))
    have HT2 := Lib.hid ht
    have HV2 : Hid (b2 = false → b1 = false ∧ v2 = leV b 2 2) := Lib.hid hg
    clear hr ht hg hd hv HGr HRG HT
    have HGr := HG2
    have HRG := HRG2
    have HT := HT2
    clear HG2 HRG2 HT2
    go_upto_region 9 with (fail)
    clear cc ff
    generalize w7.setCell ⟨T, 2, none⟩ (.int .u16 v2) = w8 at *
    go_wp2_with fail
    refine (rNum_trkM R b l2 b2 4 2 (by decide) w8 HRG.out HT.out (fun _ h => not_pok_hd (by omega))).mono ?_
    rintro e w9 ⟨v3, l3, b3, rfl, hr, ht, hg, hv, hd⟩
    have hv3 : 0 ≤ v3 ∧ v3 < 65536 := hv
    have hw3 : IntKind.u16.wrap v3 = v3 := by simp [IntKind.wrap, IntKind.bits, IntKind.signed]; omega
    replace HGr := Lib.hid (HGr.out.rd hd)
    have cc := HGr.out.m.c3
    have ff := HGr.out.fz 3 (by decide)
    have HG2 : Hid (GR w R T (uW (uW (uW (kF1 v0) 1 v1) 2 v2) 3 v3) (.slice none 0 0) (.slice none 0 0) (.slice none 0 0) (w9.setCell ⟨T, 3, none⟩ (.int .u16 v3))) := Lib.hid (HGr.out.num 3 (by decide) v3)
    have hlt0 := HGr.out.g
    have HRG2 := Lib.hid (hr.block (setCell_block (w := w9) (b := T) (j := 3) (u := .int .u16 v3) (by omega)))
    have HT2 := Lib.hid ht
    have HV3 : Hid (b3 = false → b2 = false ∧ v3 = leV b 4 2) := Lib.hid hg
    clear hr ht hg hd hv HGr HRG HT
    have HGr := HG2
    have HRG := HRG2
    have HT := HT2
    clear HG2 HRG2 HT2
    go_upto_region 10 with (fail)
    clear cc ff
    generalize w9.setCell ⟨T, 3, none⟩ (.int .u16 v3) = w12 at *
    go_wp2_with fail
    refine (rNum_trkM R b l3 b3 6 4 (by decide) w12 HRG.out HT.out (fun _ h => not_pok_hd (by omega))).mono ?_
    rintro e w13 ⟨v4, l4, b4, rfl, hr, ht, hg, hv, hd⟩
    have hv4 : 0 ≤ v4 ∧ v4 < 4294967296 := hv
    have hw4 : IntKind.u32.wrap v4 = v4 := by simp [IntKind.wrap, IntKind.bits, IntKind.signed]; omega
    replace HGr := Lib.hid (HGr.out.rd hd)
    have cc := HGr.out.m.c4
    have ff := HGr.out.fz 4 (by decide)
    have HG2 : Hid (GR w R T (uW (uW (uW (uW (kF1 v0) 1 v1) 2 v2) 3 v3) 4 v4) (.slice none 0 0) (.slice none 0 0) (.slice none 0 0) (w13.setCell ⟨T, 4, none⟩ (.int .u32 v4))) := Lib.hid (HGr.out.num 4 (by decide) v4)
    have hlt0 := HGr.out.g
    have HRG2 := Lib.hid (hr.block (setCell_block (w := w13) (b := T) (j := 4) (u := .int .u32 v4) (by omega)))
    have HT2 := Lib.hid ht
    have HV4 : Hid (b4 = false → b3 = false ∧ v4 = leV b 6 4) := Lib.hid hg
    clear hr ht hg hd hv HGr HRG HT
    have HGr := HG2
    have HRG := HRG2
    have HT := HT2
    clear HG2 HRG2 HT2
    go_upto_region 11 with (fail)
    clear cc ff
    generalize w13.setCell ⟨T, 4, none⟩ (.int .u32 v4) = w14 at *
    have c0 : w14.cell? ⟨T, 0, none⟩ = some (.int .i64 v0) := HGr.out.m.c0
    have HSM := Lib.hid (sm_start b v0 v1 v2 v3 v4 l4 b4 (T + 1) w14 HT.out (fun e4 => by
      obtain ⟨e3, q4⟩ := HV4.out e4
      obtain ⟨e2, q3⟩ := HV3.out e3
      obtain ⟨e1, q2⟩ := HV2.out e2
      obtain ⟨e0, q1⟩ := HV1.out e1
      exact ⟨HV0.out e0, q1, q2, q3, q4⟩))
    clear HT HV0 HV1 HV2 HV3 HV4
    go_wp2_with fail
    refine (has_any v0 _).mono ?_
    rintro e w15 ⟨rfl, hw15⟩
    subst hw15
    have hsk : ((pkS v0).size : Int) = (pkL v0).length := by rw [pkS_size]
    have hl5 := (pkL_bd v0).1
    clear c0
    generalize hF4 : (uW (uW (uW (uW (kF1 v0) 1 v1) 2 v2) 3 v3) 4 v4) = F4 at *
    clear hF4
    go_wp2_with fail
    go_loopw [7] (fun i wr => ∃ (n : Nat) (F : Nat → Int) (iv lv dv : Value) (l : List Int) (bad : Bool), n ≤ (pkL v0).length ∧ i = .int .i64 n ∧ GR w R T F iv lv dv wr ∧ RG wr R l bad ∧ SM b v0 n F iv lv dv l bad (T + 1) wr) (fun i _ => (pkL v0).length - (intOf i).toNat)
    case atStart => exact ⟨0, _, _, _, _, l4, b4, Nat.zero_le _, rfl, HGr.out, HRG.out, HSM.out⟩
    case round =>
      obtain ⟨n, F, iv, lv, dv, l, bad, hn, rfl, hgr, hrg, hsm⟩ := hrel
      clear HGr HRG HSM
      have HG := Lib.hid hgr
      have HRG := Lib.hid hrg
      have HSM := Lib.hid hsm
      clear hgr hrg hsm
      by_cases hlt : n < (pkL v0).length
      · have hki : (n : Int) < ((pkS v0).size : Int) := by omega
        have HRead : Hid (∀ (h : n < (pkS v0).size) (w : World), RG w R l bad → SM b v0 n F iv lv dv l bad (T + 1) w → T + 1 ≤ w.heap.size → Calls Try.prog 47 #[.agg (msgL F iv lv dv).toArray, .pointer (some ⟨R, 0, none⟩), .int .u8 ((((pkS v0)[n]'h).toNat : Nat) : Int)] w fun e w' => ∃ F' iv' lv' dv' l' bad', e = .returned (.agg (msgL F' iv' lv' dv').toArray) ∧ RG w' R l' bad' ∧ SM b v0 (n + 1) F' iv' lv' dv' l' bad' (T + 1) w' ∧ Rd R w w') := Lib.hid (fun h w h1 h2 h3 => by
          rw [pkS_get v0 n hlt h]
          exact read_any b HBb.out v0 n hlt R (T + 1) F iv lv dv l bad w h1 (by have := HG.out.g; omega) h3 h2)
        have HGd := Lib.hid (HG.out.rd (R := R) (w' := wr.drew) ⟨rfl, rfl, rfl, Nat.le_refl _, fun _ _ _ => rfl⟩)
        have HRGd := Lib.hid (HRG.out.block (w' := wr.drew) rfl)
        have HSd := Lib.hid (HSM.out.rd (T := R) (w' := wr.drew) ⟨rfl, rfl, rfl, Nat.le_refl _, fun _ _ _ => rfl⟩ (by have := HG.out.g; omega))
        clear HG HRG HSM
        go_wp2_with fail
        refine wp_region_any (by kernel_rfl) ?_
        change wpAny _ _ _ _ _ _ _ (World.drew _)
        refine wpAny_take (i := 1) (v := ?_) rfl (by kernel_rfl) (by kernel_rfl) (by kernel_rfl) (fun _ _ _ h => h) (Or.inl ⟨by rfl, ?_⟩) ?_
        rotate_left 1
        · intro w; go_simp; try with_reducible rfl
        refine wpAny_take (i := 2) (v := ?_) rfl (by kernel_rfl) (by kernel_rfl) (by kernel_rfl) (fun _ _ _ h => h) (Or.inl ⟨by rfl, ?_⟩) ?_
        rotate_left 1
        · intro w; go_simp; try with_reducible rfl
        refine wpAny_take (i := 3) (v := ?_) rfl (by kernel_rfl) (by kernel_rfl) (by kernel_rfl) (fun _ _ _ h => h) (Or.inl ⟨by rfl, ?_⟩) ?_
        rotate_left 1
        · intro w; go_simp; try with_reducible rfl
        refine wpAny_ready (rs := [0, 4]) (by kernel_rfl) (by simp) ?_
        refine AllReady.cons rfl (fun K hK => ?_) (AllReady.cons rfl (fun K hK => ?_) AllReady.nil)
        · skip
          refine step_ldW rfl (.tmp 5) rfl T F iv lv dv (by first | rfl | simp [Act.eval, Act.put]) HGd.out.m ?_
          refine hK _ _ ?_
          clear hK K
          refine wpAny_ready (rs := [4]) (by kernel_rfl) (by simp) ?_
          refine AllReady.cons rfl (fun K hK => ?_) AllReady.nil
          go_simp
          refine hK _ _ ?_
          clear hK K
          refine wpAny_ready (rs := [5]) (by kernel_rfl) (by simp) ?_
          refine AllReady.cons rfl (fun K hK => ?_) AllReady.nil
          go_simp
          go_at_call 47
          refine (HRead.out _ _ HRGd.out HSd.out (by have := HGd.out.m.lt; omega)).mono ?_
          rintro e w5 ⟨F', iv', lv', dv', l', bad', rfl, hr5, hs5, hd5⟩
          have HG5 := Lib.hid (HGd.out.rd hd5)
          have HRG5 := Lib.hid hr5
          have HS5 := Lib.hid hs5
          obtain ⟨ai, mi, ci, rfl⟩ := hs5.fi
          obtain ⟨al, ml, cl, rfl⟩ := hs5.fl
          obtain ⟨ad, md, cd, rfl⟩ := hs5.fd
          clear hr5 hs5 hd5 HGd HRGd HSd
          refine hK _ _ ?_
          clear hK K
          refine wpAny_ready (rs := [6]) (by kernel_rfl) (by simp) ?_
          refine AllReady.cons rfl (fun K hK => ?_) AllReady.nil
          refine step_stW rfl (.tmp 5) (.tmp 62) rfl T F' _ _ _ (by first | rfl | simp [Act.eval, Act.put]) (by first | rfl | simp [Act.eval, Act.put]) HG5.out.th (msg_one _ _ _ _ _ _ _ _ _ _) ?_
          refine hK _ _ ?_
          clear hK K
          refine wpAny_done (by kernel_rfl) ?_ _
          have HG6 := Lib.hid (HG5.out.put F' (.slice ai mi ci) (.slice al ml cl) (.slice ad md cd))
          have hbs := rdW_set T (msgL F' (.slice ai mi ci) (.slice al ml cl) (.slice ad md cd)) w5
          have HRG6 := Lib.hid (HRG5.out.rdW hbs (by have := HG5.out.g; omega))
          have HS6 := Lib.hid (HS5.out.rd hbs (Nat.lt_succ_self T))
          clear hbs HG5 HRG5 HS5
          generalize w5.setCells T 0 (msgL F' (.slice ai mi ci) (.slice al ml cl) (.slice ad md cd)) = w6 at *
          go_wp2_with fail
          exact ⟨⟨n + 1, F', _, _, _, l', bad', by omega, by go_num, HG6.out, HRG6.out, HS6.out⟩, by simp [intOf]; omega⟩
        · skip
          go_simp
          refine hK _ _ ?_
          clear hK K
          refine wpAny_ready (rs := [0]) (by kernel_rfl) (by simp) ?_
          refine AllReady.cons rfl (fun K hK => ?_) AllReady.nil
          refine step_ldW rfl (.tmp 5) rfl T F iv lv dv (by first | rfl | simp [Act.eval, Act.put]) HGd.out.m ?_
          refine hK _ _ ?_
          clear hK K
          refine wpAny_ready (rs := [5]) (by kernel_rfl) (by simp) ?_
          refine AllReady.cons rfl (fun K hK => ?_) AllReady.nil
          go_simp
          go_at_call 47
          refine (HRead.out _ _ HRGd.out HSd.out (by have := HGd.out.m.lt; omega)).mono ?_
          rintro e w5 ⟨F', iv', lv', dv', l', bad', rfl, hr5, hs5, hd5⟩
          have HG5 := Lib.hid (HGd.out.rd hd5)
          have HRG5 := Lib.hid hr5
          have HS5 := Lib.hid hs5
          obtain ⟨ai, mi, ci, rfl⟩ := hs5.fi
          obtain ⟨al, ml, cl, rfl⟩ := hs5.fl
          obtain ⟨ad, md, cd, rfl⟩ := hs5.fd
          clear hr5 hs5 hd5 HGd HRGd HSd
          refine hK _ _ ?_
          clear hK K
          refine wpAny_ready (rs := [6]) (by kernel_rfl) (by simp) ?_
          refine AllReady.cons rfl (fun K hK => ?_) AllReady.nil
          refine step_stW rfl (.tmp 5) (.tmp 62) rfl T F' _ _ _ (by first | rfl | simp [Act.eval, Act.put]) (by first | rfl | simp [Act.eval, Act.put]) HG5.out.th (msg_one _ _ _ _ _ _ _ _ _ _) ?_
          refine hK _ _ ?_
          clear hK K
          refine wpAny_done (by kernel_rfl) ?_ _
          have HG6 := Lib.hid (HG5.out.put F' (.slice ai mi ci) (.slice al ml cl) (.slice ad md cd))
          have hbs := rdW_set T (msgL F' (.slice ai mi ci) (.slice al ml cl) (.slice ad md cd)) w5
          have HRG6 := Lib.hid (HRG5.out.rdW hbs (by have := HG5.out.g; omega))
          have HS6 := Lib.hid (HS5.out.rd hbs (Nat.lt_succ_self T))
          clear hbs HG5 HRG5 HS5
          generalize w5.setCells T 0 (msgL F' (.slice ai mi ci) (.slice al ml cl) (.slice ad md cd)) = w6 at *
          go_wp2_with fail
          exact ⟨⟨n + 1, F', _, _, _, l', bad', by omega, by go_num, HG6.out, HRG6.out, HS6.out⟩, by simp [intOf]; omega⟩
      · obtain rfl : n = (pkL v0).length := by omega
        go_wp2_with fail
        refine (rEnd_any R l bad wr HRG.out).mono ?_
        rintro e w9 ⟨rfl, hw9⟩
        subst hw9
        have hnx := nx_end v0
        rcases hE : (!bad && decide (l = [])) with _ | _
        · have HNo : Hid (¬ OkM bs) := Lib.hid (fun hok => by
            obtain ⟨-, hp, hend, -⟩ := HOk.out.1 hok
            cases bad with
            | true => exact HSM.out.t.2.2.2 rfl hp
            | false =>
              obtain ⟨-, -, -, -, -, hl, -⟩ := HSM.out.fin hnx
              rw [hend, List.drop_length] at hl
              rw [hl] at hE
              cases hE)
          clear hE
          have H2 : Hid (w9.there w.heap.size 0 zL.toArray.size) := Lib.hid (msg_there _ _ _ _ HG.out.z)
          have HM2 := Lib.hid (msgAt_stored HG.out.z zF (.slice none 0 0) (.slice none 0 0) (.slice none 0 0))
          have HB2 := Lib.hid (below_setCells w.heap.size (Nat.le_refl _) zL 0 HG.out.bel)
          go_wp2_with (first | (refine wpList_build_gen (o := ⟨some 71, _, _, _, _, _⟩) _ _ zL (by rfl) rfl rfl (build_msg0 _) ?_) | (refine wpList_store_mid (op := ⟨none, Op.store 30 (.tmp 2) (.tmp 71), _, _, _, _⟩) rfl 30 _ _ rfl w.heap.size 0 zL.toArray rfl rfl H2.out (by have e : zL.toArray.size = zL.length := List.size_toArray; rw [e]; exact size_msg _ _ _ _) zL_one ?_))
          refine bodyPost_ret (results_g21 _ _ w.heap.size 2 rfl rfl HM2.out) rfl ?_
          exact ⟨Or.inr (Or.inl ⟨HSm.out, HNo.out, rfl⟩), HB2.out⟩
        · obtain rfl : bad = false := by cases bad with | true => cases hE | false => rfl
          have hl : l = [] := by simpa using hE
          obtain ⟨f1, f2, f3, f4, f5, f6, f7⟩ := HSM.out.fin hnx
          have hend : gEnd b = b.length := by
            rw [hl] at f6
            have := congrArg List.length f6
            rw [List.length_drop, List.length_nil] at this
            omega
          have HP : Hid (POk b ∧ gEnd b = b.length) := Lib.hid ⟨⟨f7, f2⟩, hend⟩
          have HRow := Lib.hid (⟨f3.inps, f4.ents, f5.bytes⟩ : RowsV w9 iv lv dv (prsM b))
          have HOw := Lib.hid (⟨f3, f4, f5⟩ : OwnI w9 (T + 1) iv (gNi b) (gIn b) ∧ OwnL w9 (T + 1) lv (gNl b) (gD b) ∧ BytesN w9 (T + 1) dv (gDt b))
          obtain ⟨ai, mi, ci, rfl⟩ := HSM.out.fi
          obtain ⟨al, ml, cl, rfl⟩ := HSM.out.fl
          obtain ⟨ad, md, cd, rfl⟩ := HSM.out.fd
          have hG2 : GR w R T (gF b) (.slice ai mi ci) (.slice al ml cl) (.slice ad md cd) w9 := ⟨HG.out.z, HG.out.m.congr f1, HG.out.th, HG.out.g0, HG.out.g, HG.out.bel⟩
          have HGf := Lib.hid hG2
          clear hE hl f1 f2 f3 f4 f5 f6 f7 hend HG hG2 HSM
          go_wp2_with (refine wpList_load_g (op := ⟨some 67, _, _, _, _, _⟩) (by rfl) 30 _ rfl T 0 rfl _ _ HGf.out.m.range Try.underlying30 rfl (size_msg _ _ _ _) ?_)
          refine (mayRefM_any (prsM b) _ _ _ _ HRow.out (msgB_prs HBb.out)).mono ?_
          rintro e w16 ⟨rfl, hb16⟩
          have HG16 := Lib.hid (HGf.out.rd (Below.rd hb16 (Nat.le_refl _)))
          have HOw16 := Lib.hid (⟨HOw.out.1.below hb16 (Nat.le_refl _), HOw.out.2.1.rdW (Below.rd (R := R) hb16 (Nat.le_refl _)).w (by have := HGf.out.g; omega), HOw.out.2.2.rdW (Below.rd (R := R) hb16 (Nat.le_refl _)).w (by have := HGf.out.g; omega)⟩ : OwnI w16 (T + 1) (.slice ai mi ci) (gNi b) (gIn b) ∧ OwnL w16 (T + 1) (.slice al ml cl) (gNl b) (gD b) ∧ BytesN w16 (T + 1) (.slice ad md cd) (gDt b))
          clear hb16 HGf HOw HRow HRG
          rcases hm : mayM (prsM b) with _ | _
          · have HNo : Hid (¬ OkM bs) := Lib.hid (fun hok => by
              obtain ⟨-, -, -, h⟩ := HOk.out.1 hok
              rw [hm] at h
              cases h)
            clear hm
            have H2 : Hid (w16.there w.heap.size 0 zL.toArray.size) := Lib.hid (msg_there _ _ _ _ HG16.out.z)
            have HM2 := Lib.hid (msgAt_stored HG16.out.z zF (.slice none 0 0) (.slice none 0 0) (.slice none 0 0))
            have HB2 := Lib.hid (below_setCells w.heap.size (Nat.le_refl _) zL 0 HG16.out.bel)
            go_wp2_with (first | (refine wpList_build_gen (o := ⟨some 71, _, _, _, _, _⟩) _ _ zL (by rfl) rfl rfl (build_msg0 _) ?_) | (refine wpList_store_mid (op := ⟨none, Op.store 30 (.tmp 2) (.tmp 71), _, _, _, _⟩) rfl 30 _ _ rfl w.heap.size 0 zL.toArray rfl rfl H2.out (by have e : zL.toArray.size = zL.length := List.size_toArray; rw [e]; exact size_msg _ _ _ _) zL_one ?_))
            refine bodyPost_ret (results_g21 _ _ w.heap.size 2 rfl rfl HM2.out) rfl ?_
            exact ⟨Or.inr (Or.inl ⟨HSm.out, HNo.out, rfl⟩), HB2.out⟩
          · have HYes : Hid (OkM bs) := Lib.hid (HOk.out.2 ⟨by omega, HP.out.1, HP.out.2, hm⟩)
            clear hm
            have H3 : Hid (w16.there w.heap.size 0 (msgL (gF b) (.slice ai mi ci) (.slice al ml cl) (.slice ad md cd)).toArray.size) := Lib.hid (msg_there _ _ _ _ HG16.out.z)
            have HM3 := Lib.hid (msgAt_stored HG16.out.z (gF b) (.slice ai mi ci) (.slice al ml cl) (.slice ad md cd))
            have HB3 := Lib.hid (below_setCells w.heap.size (Nat.le_refl _) (msgL (gF b) (.slice ai mi ci) (.slice al ml cl) (.slice ad md cd)) 0 HG16.out.bel)
            have hbs := rdW_set w.heap.size (msgL (gF b) (.slice ai mi ci) (.slice al ml cl) (.slice ad md cd)) w16
            have hltB : w.heap.size < T + 1 := by have := HG16.out.g0; have := HG16.out.g; omega
            have HRow3 := Lib.hid (⟨(HOw16.out.1.rdW hbs hltB).inps, (HOw16.out.2.1.rdW hbs hltB).ents, (HOw16.out.2.2.rdW hbs hltB).bytes⟩ : RowsV (w16.setCells w.heap.size 0 (msgL (gF b) (.slice ai mi ci) (.slice al ml cl) (.slice ad md cd))) (.slice ai mi ci) (.slice al ml cl) (.slice ad md cd) (prsM b))
            clear hbs
            go_wp2_with (first | (refine wpList_load_g (op := ⟨some 72, _, _, _, _, _⟩) (by rfl) 30 _ rfl T 0 rfl _ _ HG16.out.m.range Try.underlying30 rfl (size_msg _ _ _ _) ?_) | (refine wpList_store_mid (op := ⟨none, Op.store 30 (.tmp 2) (.tmp 72), _, _, _, _⟩) rfl 30 _ _ rfl w.heap.size 0 (msgL (gF b) (.slice ai mi ci) (.slice al ml cl) (.slice ad md cd)).toArray rfl rfl H3.out (by have e : (msgL (gF b) (.slice ai mi ci) (.slice al ml cl) (.slice ad md cd)).toArray.size = (msgL (gF b) (.slice ai mi ci) (.slice al ml cl) (.slice ad md cd)).length := List.size_toArray; rw [e]; exact size_msg _ _ _ _) (msg_one _ _ _ _ _ _ _ _ _ _) ?_))
            refine bodyPost_ret (results_g21 _ _ w.heap.size 0 rfl rfl HM3.out) rfl ?_
            refine ⟨Or.inr (Or.inr ⟨HSm.out, HYes.out, .slice ai mi ci, .slice al ml cl, .slice ad md cd, ?_, ?_⟩), HB3.out⟩
            · rw [hbb]
            · rw [hbb]; exact HRow3.out
end Go.Proofs.Ytembppihfcclcaa
