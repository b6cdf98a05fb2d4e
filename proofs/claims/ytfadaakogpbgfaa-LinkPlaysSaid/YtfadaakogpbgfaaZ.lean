/-
  Link: the reference's Stamp.
-/
import Derived.Test.YtfadaakogpbgfaaY
import Derived.Deep.RegionHeld3
namespace Go.Proofs.Ytfadaakogpbgfaa
set_option linter.unusedVariables false
open Go.ChangeShapes Go.WideShapes Go.ChangeAt Go.RowKit Go.Sort

/-- Append one number to a row, in a region that draws its order. -/
theorem step_append_open {ops : Array Oper} {op : Oper} {a : Act} {w : World} {K : Act → World → Prop} {Q : Exit → Act → World → Prop} {E : Prop} (hg : op.guard = none)
    (s x : Operand) (ho : op.op = Op.call { callee := Callee.builtin Builtin.append, args := #[s, x], argTypes := #[38, 38] })
    (R : Nat → Prop) (v : Value) (zs : List Int) (hzl : zs.length ≤ 100000) (hO : OpenAt w R v zs) (hs : a.eval s = v)
    (ad : Addr) (c : Nat) (y : Int) (hx : a.eval x = .slice (some ad) 1 c) (hc : w.cell? ad = some (.int .u16 y))
    (h : ∀ v' w', OpenAt w' (fun k => R k ∨ w.heap.size ≤ k) v' (zs ++ [y]) → Frame R w w' → K (a.put op.dst v') w') :
    if Region.wanted op (yielded ops a.tmps) = true then Oper.wp Try.prog op a w K Q else E := by
  have hw : Region.wanted op (yielded ops a.tmps) = true := by simp [Region.wanted, hg]
  rw [if_pos hw]
  obtain ⟨i0, hi, hz0, hz1, hz2⟩ := info_parts (P := Try.prog) (e := 28) (z := .int .u16 0) (size := 1) (bytes := 2) (by kernel_rfl)
  have hnews : ∀ (j : Nat) (u : Value), [Value.int .u16 y][j]? = some u → w.cell? (ad.add j) = some u := by
    intro j u hj
    cases j with
    | zero =>
      simp at hj
      subst hj
      have : ad.add 0 = ad := by cases ad with | mk b o p => cases p <;> rfl
      rw [this]; exact hc
    | succ k => simp at hj
  rcases hO with ⟨rfl, rfl⟩ | ⟨g, off, cap, rfl, hRg, hgs, hr⟩
  · obtain ⟨v', w1, hrun, hown, hgrow, _⟩ := run_append_own (P := Try.prog) w w.heap.size 38 op.type 28 i0 (.int .u16 0) 1 2 Try.underlying38 hi hz0 hz1 hz2 rfl (by decide) (.slice none 0 0) 0 [] (World.ownsRow_nil w _ 28 1) ad 1 c [.int .u16 y] rfl hnews (by intro u hu; simp at hu; subst hu; rfl) (by decide) (by decide) (Nat.le_refl _)
    unfold Oper.wp
    simp [execOp, ho, resolve, invoke, builtin, hs, hx, hrun, Result.andThen]
    exact h v' w1 ((openAt_own (zs := [y]) (by simpa using hown)).mono fun k hk => Or.inr hk) ((Frame.refl R w).grown hgrow)
  · by_cases hroom : zs.length + 1 ≤ cap
    · have hr0 : ∀ j, j < [Value.int .u16 y].length → (w.cell? ⟨g, off + zs.length * i0.size + j, none⟩).isSome = true ∧ w.frozen? ⟨g, off + zs.length * i0.size + j, none⟩ = false := fun j hj => by
        have hj0 : j = 0 := by simp at hj; exact hj
        subst hj0
        have := hr.room zs.length (by omega)
        rw [hz1]; simpa using this
      have hrun := run_append_room_cells (P := Try.prog) w 38 op.type 28 i0 Try.underlying38 hi g off zs.length cap ad 1 c [.int .u16 y] (by rw [hz1]; rfl) hnews (by intro u hu; simp at hu; subst hu; rfl) hroom (fun j hj => (hr0 j hj).1) (fun j hj => (hr0 j hj).2)
      unfold Oper.wp
      simp [execOp, ho, resolve, invoke, builtin, hs, hx, hrun, Result.andThen]
      have hR1 := row_push hr hroom y
      rw [hz1, Nat.mul_one]
      have hF := frame_row (w := w) (o := off + zs.length) hRg (Value.int .u16 y)
      exact h _ _ (Or.inr ⟨g, off, cap, by simp, Or.inl hRg, Nat.lt_of_lt_of_le hgs hF.size, hR1⟩) hF
    · obtain ⟨v', w1, hrun, hown, hgr⟩ := run_append_arg_grows (P := Try.prog) w 38 op.type 28 i0 (.int .u16 0) 1 2 Try.underlying38 hi hz0 hz1 hz2 rfl (by decide) ⟨g, off, none⟩ zs.length cap (zs.map (Value.int .u16)) (by simp) (fun j u hj => by
        have hjn : j < zs.length := by
          have := (List.getElem?_eq_some_iff.1 hj).1
          simpa using this
        have e : (zs.map (Value.int .u16))[j]? = some (Value.int .u16 (zs.getD j 0)) := by simp [List.getD, List.getElem?_eq_getElem hjn]
        rw [e] at hj
        rw [← hj, Addr.add_lit]
        exact hr.cell j hjn) ad 1 c [.int .u16 y] rfl hnews (by omega) (by unfold maxLen; omega) (by omega)
      unfold Oper.wp
      simp [execOp, ho, resolve, invoke, builtin, hs, hx, hrun, Result.andThen]
      exact h v' w1 ((openAt_own (zs := zs ++ [y]) (by simpa using hown)).mono fun k hk => Or.inr hk) ((Frame.refl R w).grown hgr)
theorem openAt_some {w : World} {R : Nat → Prop} {v : Value} {zs : List Int} {y : Int} (h : OpenAt w R v (zs ++ [y])) :
    ∃ g off cap, v = .slice (some ⟨g, off, none⟩) (zs.length + 1) cap ∧ R g ∧ g < w.heap.size ∧ RowAt w g off cap (zs ++ [y]) := by
  rcases h with ⟨-, h⟩ | ⟨g, off, cap, h1, h2⟩
  · simp at h
  · exact ⟨g, off, cap, by rw [h1]; simp, h2⟩
theorem RLinkAt.setOpen {w : World} {b : Nat} {sr : Int} {v : Value} {t : Int} (a : RLinkAt w b sr v t) (u : Value) : RLinkAt (w.setCell ⟨b, 37, none⟩ u) b sr u t := by
  obtain ⟨c0, c1, c2, f0, f1, f2⟩ := a
  refine rlinkAt_of ?_ ?_ ?_ ?_ ?_ ?_
  all_goals go_light
  all_goals go_simp
theorem rst_mid {w0 wa w' : World} {P : Nat → Prop} {b : Nat} {s t : Int} {v : Value} {is : Bool} {l : Int} {c : Nat → Bool} {g off cap : Nat} {zs : List Int} (sl : Value)
    (hL : RLinkAt w0 b s v t) (hR : RefAt w0 b is l c) (hb : b < w0.heap.size) (hPb : P b) (hfa : Frame (fun _ => False) w0 wa) (hF : Frame (fun k => P k ∧ k ≠ b) wa w')
    (hg : (P g ∧ g ≠ b) ∨ wa.heap.size ≤ g) (hgs : g < w'.heap.size) (hr : RowAt w' g off cap zs) :
    RLinkAt (w'.setCell ⟨b, 37, none⟩ sl) b s sl t ∧ RefAt (w'.setCell ⟨b, 37, none⟩ sl) b is l c ∧ RowAt (w'.setCell ⟨b, 37, none⟩ sl) g off cap zs ∧ g < (w'.setCell ⟨b, 37, none⟩ sl).heap.size ∧ g ≠ b ∧ (P g ∨ w0.heap.size ≤ g) ∧ Frame P w0 (w'.setCell ⟨b, 37, none⟩ sl) := by
  have hba : b < wa.heap.size := Nat.lt_of_lt_of_le hb hfa.size
  have hk : w'.heap[b]? = w0.heap[b]? := (hF.block b hba (fun e => e.2 rfl)).trans (hfa.block b hb (fun e => e))
  have hgb : g ≠ b := by rcases hg with h | h; exact h.2; omega
  have hO := (Only.refl b w').setCell (p := ⟨b, 37, none⟩) rfl sl
  have hFr : Frame P w0 (w'.setCell ⟨b, 37, none⟩ sl) := ((hfa.mono (fun _ h => h.elim)).trans (hF.mono (fun k h => h.1))).setCell (x := ⟨b, 37, none⟩) hPb sl
  refine ⟨(hL.block hk).setOpen sl, (hR.block hk).setOut 37 (Or.inr (by decide)) sl, hr.block (hO.block g hgb), by rw [hO.size]; exact hgs, hgb, ?_, hFr⟩
  rcases hg with h | h
  · exact Or.inl h.1
  · exact Or.inr (Nat.le_trans hfa.size h)
set_option maxHeartbeats 1000000 in
theorem rstamp_any {w : World} {P : Nat → Prop} {b : Nat} {sr t : Int} {is : Bool} {l : Int} {c : Nat → Bool} {zs : List Int} (o : RLk w P b sr t is l c zs) (hz : zs.length ≤ 64) :
    Calls Try.prog 11 #[.pointer (some ⟨b, 0, none⟩)] w fun e w' => ∃ m : Nat, e = .returned (.tuple #[.int .u16 (IntKind.u16.wrap (sr + 1)), .int .u16 l, .int .u32 m]) ∧ m < 2 ^ 32 ∧ (∀ j, m.testBit j = (decide (j < 32) && c (j + 1))) ∧ Frame P w w' ∧ ∃ P', (∀ k, P' k → P k ∨ w.heap.size ≤ k) ∧ RLk w' P' b (IntKind.u16.wrap (sr + 1)) t is l c (cut64 (zs ++ [IntKind.u16.wrap (sr + 1)])) := by
  obtain ⟨v, hL, hO⟩ := o.ex
  have hb := o.lt _ o.own
  have hR := o.ref
  obtain ⟨c0, c1, c2, f0, f1, f2⟩ := hL
  have HO := Lib.hid hO
  have HR := Lib.hid hR
  have OO := Lib.hid o
  clear hO hR o
  generalize hs : IntKind.u16.wrap (sr + 1) = s
  have HS := Lib.hid hs
  clear hs
  go_enter Try.func11, Try.ntmps11
  go_wp2_with fail
  rw [HS.out]
  have hF0 : Frame (fun k => k = b) w (w.setCell ⟨b, 0, none⟩ (.int .u16 s)) := (Frame.refl (fun k => k = b) w).setCell (x := ⟨b, 0, none⟩) rfl _
  have hF0' : Frame P w (w.setCell ⟨b, 0, none⟩ (.int .u16 s)) := hF0.mono fun k hk => hk ▸ OO.out.own
  have hL0 : RLinkAt (w.setCell ⟨b, 0, none⟩ (.int .u16 s)) b s v t := by
    refine rlinkAt_of ?_ ?_ ?_ ?_ ?_ ?_
    all_goals go_light
    all_goals go_simp
  have hR0 := HR.out.setOut 0 (Or.inl rfl) (.int .u16 s)
  have hO0 := HO.out.frame hF0 (fun k hk e => hk.2 e)
  have hb0 : b < (w.setCell ⟨b, 0, none⟩ (.int .u16 s)).heap.size := by simpa using hb
  clear c0 c1 c2 f0 f1 f2 hF0
  generalize w.setCell ⟨b, 0, none⟩ (.int .u16 s) = w0 at *
  obtain ⟨c0, c1, c2, f0, f1, f2⟩ := hL0
  have HL0 := Lib.hid (rlinkAt_of c0 c1 c2 f0 f1 f2)
  have HF0 := Lib.hid hF0'
  have HR0 := Lib.hid hR0
  have HO0 := Lib.hid hO0
  clear hF0' hR0 hO0
  refine wp_region_any (by kernel_rfl) ?_
  change wpAny _ _ _ _ _ _ _ (World.drew _)
  refine wpAny_take (i := 0) (v := ?_) rfl (by kernel_rfl) (by kernel_rfl) (by kernel_rfl) (fun _ _ _ h => h) (Or.inl ⟨by rfl, ?_⟩) ?_
  rotate_left 1
  · intro w; go_simp; try with_reducible rfl
  refine wpAny_take (i := 1) (v := ?_) rfl (by kernel_rfl) (by kernel_rfl) (by kernel_rfl) (fun _ _ _ h => h) (Or.inl ⟨by rfl, ?_⟩) ?_
  rotate_left 1
  · intro w; go_simp; try with_reducible rfl
  refine wpAny_take (i := 2) (v := ?_) rfl (by kernel_rfl) (by kernel_rfl) (by kernel_rfl) (fun _ _ _ h => h) (Or.inl ⟨by rfl, ?_⟩) ?_
  rotate_left 1
  · intro w; go_simp; try with_reducible rfl
  refine wpAny_take (i := 3) (v := ?_) rfl (by kernel_rfl) (by kernel_rfl) (by kernel_rfl) (fun _ _ _ h => h) (Or.inl ⟨by rfl, ?_⟩) ?_
  rotate_left 1
  · intro w; go_simp; try with_reducible rfl
  refine wpAny_take (i := 5) (v := ?_) rfl (by kernel_rfl) (by kernel_rfl) (by kernel_rfl) (fun _ _ _ h => h) (Or.inl ⟨by rfl, ?_⟩) ?_
  rotate_left 1
  · intro w; go_simp; try with_reducible rfl
  refine wpAny_take (i := 6) (v := ?_) rfl (by kernel_rfl) (by kernel_rfl) (by kernel_rfl) (fun _ _ _ h => h) (Or.inl ⟨by rfl, ?_⟩) ?_
  rotate_left 1
  · intro w; go_simp; try with_reducible rfl
  refine wpAny_take (i := 7) (v := ?_) rfl (by kernel_rfl) (by kernel_rfl) (by kernel_rfl) (fun _ _ _ h => h) (Or.inl ⟨by rfl, ?_⟩) ?_
  rotate_left 1
  · intro w; go_simp; try with_reducible rfl
  refine wpAny_ready (rs := [4, 8]) (by kernel_rfl) (by simp) ?_
  refine AllReady.cons rfl (fun K hK => ?_) (AllReady.cons rfl (fun K hK => ?_) AllReady.nil)
  ·
    go_simp
    refine hK _ _ ?_
    clear hK K
    refine wpAny_ready (rs := [8]) (by kernel_rfl) (by simp) ?_
    refine AllReady.cons rfl (fun K hK => ?_) AllReady.nil
    go_simp
    refine hK _ _ ?_
    clear hK K
    refine wpAny_ready (rs := [9]) (by kernel_rfl) (by simp) ?_
    refine AllReady.cons rfl (fun K hK => ?_) AllReady.nil
    go_simp
    refine hK _ _ ?_
    clear hK K
    refine wpAny_ready (rs := [10]) (by kernel_rfl) (by simp) ?_
    refine AllReady.cons rfl (fun K hK => ?_) AllReady.nil
    (refine step_append_open rfl _ _ rfl (fun k => P k ∧ k ≠ b) v zs (by omega) (HO0.out.frame (P := fun _ => False) (by first | exact ((Frame.refl _ _).drew).alloc _ | exact ((Frame.refl _ _).alloc _).drew) (fun _ _ h => h)) rfl _ _ s rfl (by go_simp; try with_reducible rfl) ?_; intro v' w' hO' hF'; have hK' := hF'.block b (by simp; omega) (fun e => e.2 rfl); have d2 : w'.cell? ⟨b, 37, none⟩ = some v := (World.cell?_of_block hK').trans (by go_simp; try with_reducible rfl); have e2 : w'.frozen? ⟨b, 37, none⟩ = false := (World.frozen?_of_block hK').trans (by go_simp; try with_reducible rfl); have HK' := Lib.hid hK'; clear hK'; obtain ⟨g', off', cap', rfl, hO1⟩ := openAt_some hO'; have HO' := Lib.hid hO1; have HF' := Lib.hid hF'; clear hO' hO1 hF')
    refine hK _ _ ?_
    clear hK K
    refine wpAny_take (i := 11) (v := ?_) rfl (by kernel_rfl) (by kernel_rfl) (by kernel_rfl) (fun _ _ _ h => h) (Or.inl ⟨by rfl, ?_⟩) ?_
    rotate_left 1
    · intro w; go_simp; try with_reducible rfl
    refine wpAny_take (i := 12) (v := ?_) rfl (by kernel_rfl) (by kernel_rfl) (by kernel_rfl) (fun _ _ _ h => h) (Or.inl ⟨by rfl, ?_⟩) ?_
    rotate_left 1
    · intro w; go_simp; try with_reducible rfl
    refine wpAny_ready (rs := [13]) (by kernel_rfl) (by simp) ?_
    refine AllReady.cons rfl (fun K hK => ?_) AllReady.nil
    go_simp
    refine hK _ _ ?_
    clear hK K
    refine wpAny_done (by kernel_rfl) ?_ _
    obtain ⟨hL1, hR1, hr1, hg1, hg2, hg3, hF1⟩ := rst_mid (P := P) (Value.slice (some ⟨g', off', none⟩) (zs.length + 1) cap') HL0.out HR0.out hb0 OO.out.own (by first | exact ((Frame.refl _ _).drew).alloc _ | exact ((Frame.refl _ _).alloc _).drew) HF'.out HO'.out.1 HO'.out.2.1 HO'.out.2.2
    clear HO' HF' d2 e2 HK' HL0 HR0 HO0 c0 c1 c2 f0 f1 f2
    generalize w'.setCell ⟨b, 37, none⟩ (Value.slice (some ⟨g', off', none⟩) (zs.length + 1) cap') = w1 at *
    have hF2 : Frame P w w1 := HF0.out.trans hF1
    have hg4 : P g' ∨ w.heap.size ≤ g' := hg3.imp id (fun h => Nat.le_trans HF0.out.size h)
    have hlen : (zs ++ [s]).length = zs.length + 1 := by simp
    obtain ⟨c0, c1, c2, f0, f1, f2⟩ := hL1
    have HL := Lib.hid (rlinkAt_of c0 c1 c2 f0 f1 f2)
    have HR1 := Lib.hid hR1
    have HRow := Lib.hid hr1
    have HF2 := Lib.hid hF2
    have HG := Lib.hid hg4
    have HLen := Lib.hid hlen
    clear hR1 hr1 hF1 hF2 hg3 hg4 hlen HF0
    have hcap : zs.length + 1 ≤ cap' := by rw [← HLen.out]; exact HRow.out.le
    obtain ⟨n, hn⟩ : ∃ n, n = zs.length + 1 := ⟨_, rfl⟩
    rw [← hn]
    have HN := Lib.hid hn
    rw [← hn] at hcap c2
    have hn65 : n ≤ 65 := by omega
    clear hn
    by_cases hbig : n = 65
    · subst hbig
      have hcI : (65 : Int) ≤ (cap' : Int) := by omega
      go_wp2_with fail
      refine (rlast_any b is l c _ (HR1.out.setOut 37 (Or.inr (by decide)) _)).mono ?_
      rintro e w2 ⟨⟨m, rfl, hm, hbits⟩, rfl⟩
      have HM := Lib.hid (And.intro hm hbits)
      clear hm hbits
      go_wp2_with fail
      go_ret3
      have hF3 : Frame P w1 (w1.setCell ⟨b, 37, none⟩ (Value.slice (some ⟨g', off' + 1, none⟩) 64 (cap' - 1))) := (Frame.refl P w1).setCell (x := ⟨b, 37, none⟩) OO.out.own _
      have hO3 := (Only.refl b w1).setCell (p := ⟨b, 37, none⟩) rfl (Value.slice (some ⟨g', off' + 1, none⟩) 64 (cap' - 1))
      have hr3 := cut_row (HRow.out.block (hO3.block g' hg2)) 1 (by rw [HLen.out, ← HN.out])
      have hl3 : (cut64 (zs ++ [s])).length = 64 := by unfold cut64; rw [List.length_drop, HLen.out, ← HN.out]
      have hg5 : g' < (w1.setCell ⟨b, 37, none⟩ (Value.slice (some ⟨g', off' + 1, none⟩) 64 (cap' - 1))).heap.size := by rw [hO3.size]; exact hg1
      refine ⟨m, rfl, HM.out.1, HM.out.2, HF2.out.trans hF3, fun k => (P k ∨ w.heap.size ≤ k) ∧ k < (w1.setCell ⟨b, 37, none⟩ (Value.slice (some ⟨g', off' + 1, none⟩) 64 (cap' - 1))).heap.size, fun k hk => hk.1, ⟨⟨_, HL.out.setOpen _, Or.inr ⟨g', off' + 1, cap' - 1, by rw [hl3], ⟨⟨HG.out, hg5⟩, hg2⟩, hg5, hr3⟩⟩, HR1.out.setOut 37 (Or.inr (by decide)) _, ⟨Or.inl OO.out.own, Nat.lt_of_lt_of_le hb (HF2.out.trans hF3).size⟩, fun k hk => hk.2⟩⟩
    · have hn64 : n ≤ 64 := by omega
      go_wp2_with fail
      refine (rlast_any b is l c _ HR1.out).mono ?_
      rintro e w2 ⟨⟨m, rfl, hm, hbits⟩, rfl⟩
      have HM := Lib.hid (And.intro hm hbits)
      clear hm hbits
      go_wp2_with fail
      go_ret3
      refine ⟨m, rfl, HM.out.1, HM.out.2, HF2.out, fun k => (P k ∨ w.heap.size ≤ k) ∧ k < w1.heap.size, fun k hk => hk.1, ⟨⟨_, HL.out, Or.inr ⟨g', off', cap', by rw [cut_id (by rw [HLen.out]; have := HN.out; omega), HLen.out, ← HN.out], ⟨⟨HG.out, hg1⟩, hg2⟩, hg1, by rw [cut_id (by rw [HLen.out]; have := HN.out; omega)]; exact HRow.out⟩⟩, HR1.out, ⟨Or.inl OO.out.own, Nat.lt_of_lt_of_le hb HF2.out.size⟩, fun k hk => hk.2⟩⟩
  ·
    go_simp
    refine hK _ _ ?_
    clear hK K
    refine wpAny_ready (rs := [4, 9]) (by kernel_rfl) (by simp) ?_
    refine AllReady.cons rfl (fun K hK => ?_) (AllReady.cons rfl (fun K hK => ?_) AllReady.nil)
    ·
      go_simp
      refine hK _ _ ?_
      clear hK K
      refine wpAny_ready (rs := [9]) (by kernel_rfl) (by simp) ?_
      refine AllReady.cons rfl (fun K hK => ?_) AllReady.nil
      go_simp
      refine hK _ _ ?_
      clear hK K
      refine wpAny_ready (rs := [10]) (by kernel_rfl) (by simp) ?_
      refine AllReady.cons rfl (fun K hK => ?_) AllReady.nil
      (refine step_append_open rfl _ _ rfl (fun k => P k ∧ k ≠ b) v zs (by omega) (HO0.out.frame (P := fun _ => False) (by first | exact ((Frame.refl _ _).drew).alloc _ | exact ((Frame.refl _ _).alloc _).drew) (fun _ _ h => h)) rfl _ _ s rfl (by go_simp; try with_reducible rfl) ?_; intro v' w' hO' hF'; have hK' := hF'.block b (by simp; omega) (fun e => e.2 rfl); have d2 : w'.cell? ⟨b, 37, none⟩ = some v := (World.cell?_of_block hK').trans (by go_simp; try with_reducible rfl); have e2 : w'.frozen? ⟨b, 37, none⟩ = false := (World.frozen?_of_block hK').trans (by go_simp; try with_reducible rfl); have HK' := Lib.hid hK'; clear hK'; obtain ⟨g', off', cap', rfl, hO1⟩ := openAt_some hO'; have HO' := Lib.hid hO1; have HF' := Lib.hid hF'; clear hO' hO1 hF')
      refine hK _ _ ?_
      clear hK K
      refine wpAny_take (i := 11) (v := ?_) rfl (by kernel_rfl) (by kernel_rfl) (by kernel_rfl) (fun _ _ _ h => h) (Or.inl ⟨by rfl, ?_⟩) ?_
      rotate_left 1
      · intro w; go_simp; try with_reducible rfl
      refine wpAny_take (i := 12) (v := ?_) rfl (by kernel_rfl) (by kernel_rfl) (by kernel_rfl) (fun _ _ _ h => h) (Or.inl ⟨by rfl, ?_⟩) ?_
      rotate_left 1
      · intro w; go_simp; try with_reducible rfl
      refine wpAny_ready (rs := [13]) (by kernel_rfl) (by simp) ?_
      refine AllReady.cons rfl (fun K hK => ?_) AllReady.nil
      go_simp
      refine hK _ _ ?_
      clear hK K
      refine wpAny_done (by kernel_rfl) ?_ _
      obtain ⟨hL1, hR1, hr1, hg1, hg2, hg3, hF1⟩ := rst_mid (P := P) (Value.slice (some ⟨g', off', none⟩) (zs.length + 1) cap') HL0.out HR0.out hb0 OO.out.own (by first | exact ((Frame.refl _ _).drew).alloc _ | exact ((Frame.refl _ _).alloc _).drew) HF'.out HO'.out.1 HO'.out.2.1 HO'.out.2.2
      clear HO' HF' d2 e2 HK' HL0 HR0 HO0 c0 c1 c2 f0 f1 f2
      generalize w'.setCell ⟨b, 37, none⟩ (Value.slice (some ⟨g', off', none⟩) (zs.length + 1) cap') = w1 at *
      have hF2 : Frame P w w1 := HF0.out.trans hF1
      have hg4 : P g' ∨ w.heap.size ≤ g' := hg3.imp id (fun h => Nat.le_trans HF0.out.size h)
      have hlen : (zs ++ [s]).length = zs.length + 1 := by simp
      obtain ⟨c0, c1, c2, f0, f1, f2⟩ := hL1
      have HL := Lib.hid (rlinkAt_of c0 c1 c2 f0 f1 f2)
      have HR1 := Lib.hid hR1
      have HRow := Lib.hid hr1
      have HF2 := Lib.hid hF2
      have HG := Lib.hid hg4
      have HLen := Lib.hid hlen
      clear hR1 hr1 hF1 hF2 hg3 hg4 hlen HF0
      have hcap : zs.length + 1 ≤ cap' := by rw [← HLen.out]; exact HRow.out.le
      obtain ⟨n, hn⟩ : ∃ n, n = zs.length + 1 := ⟨_, rfl⟩
      rw [← hn]
      have HN := Lib.hid hn
      rw [← hn] at hcap c2
      have hn65 : n ≤ 65 := by omega
      clear hn
      by_cases hbig : n = 65
      · subst hbig
        have hcI : (65 : Int) ≤ (cap' : Int) := by omega
        go_wp2_with fail
        refine (rlast_any b is l c _ (HR1.out.setOut 37 (Or.inr (by decide)) _)).mono ?_
        rintro e w2 ⟨⟨m, rfl, hm, hbits⟩, rfl⟩
        have HM := Lib.hid (And.intro hm hbits)
        clear hm hbits
        go_wp2_with fail
        go_ret3
        have hF3 : Frame P w1 (w1.setCell ⟨b, 37, none⟩ (Value.slice (some ⟨g', off' + 1, none⟩) 64 (cap' - 1))) := (Frame.refl P w1).setCell (x := ⟨b, 37, none⟩) OO.out.own _
        have hO3 := (Only.refl b w1).setCell (p := ⟨b, 37, none⟩) rfl (Value.slice (some ⟨g', off' + 1, none⟩) 64 (cap' - 1))
        have hr3 := cut_row (HRow.out.block (hO3.block g' hg2)) 1 (by rw [HLen.out, ← HN.out])
        have hl3 : (cut64 (zs ++ [s])).length = 64 := by unfold cut64; rw [List.length_drop, HLen.out, ← HN.out]
        have hg5 : g' < (w1.setCell ⟨b, 37, none⟩ (Value.slice (some ⟨g', off' + 1, none⟩) 64 (cap' - 1))).heap.size := by rw [hO3.size]; exact hg1
        refine ⟨m, rfl, HM.out.1, HM.out.2, HF2.out.trans hF3, fun k => (P k ∨ w.heap.size ≤ k) ∧ k < (w1.setCell ⟨b, 37, none⟩ (Value.slice (some ⟨g', off' + 1, none⟩) 64 (cap' - 1))).heap.size, fun k hk => hk.1, ⟨⟨_, HL.out.setOpen _, Or.inr ⟨g', off' + 1, cap' - 1, by rw [hl3], ⟨⟨HG.out, hg5⟩, hg2⟩, hg5, hr3⟩⟩, HR1.out.setOut 37 (Or.inr (by decide)) _, ⟨Or.inl OO.out.own, Nat.lt_of_lt_of_le hb (HF2.out.trans hF3).size⟩, fun k hk => hk.2⟩⟩
      · have hn64 : n ≤ 64 := by omega
        go_wp2_with fail
        refine (rlast_any b is l c _ HR1.out).mono ?_
        rintro e w2 ⟨⟨m, rfl, hm, hbits⟩, rfl⟩
        have HM := Lib.hid (And.intro hm hbits)
        clear hm hbits
        go_wp2_with fail
        go_ret3
        refine ⟨m, rfl, HM.out.1, HM.out.2, HF2.out, fun k => (P k ∨ w.heap.size ≤ k) ∧ k < w1.heap.size, fun k hk => hk.1, ⟨⟨_, HL.out, Or.inr ⟨g', off', cap', by rw [cut_id (by rw [HLen.out]; have := HN.out; omega), HLen.out, ← HN.out], ⟨⟨HG.out, hg1⟩, hg2⟩, hg1, by rw [cut_id (by rw [HLen.out]; have := HN.out; omega)]; exact HRow.out⟩⟩, HR1.out, ⟨Or.inl OO.out.own, Nat.lt_of_lt_of_le hb HF2.out.size⟩, fun k hk => hk.2⟩⟩
    ·
      go_simp
      refine hK _ _ ?_
      clear hK K
      refine wpAny_ready (rs := [4]) (by kernel_rfl) (by simp) ?_
      refine AllReady.cons rfl (fun K hK => ?_) AllReady.nil
      go_simp
      refine hK _ _ ?_
      clear hK K
      refine wpAny_ready (rs := [10]) (by kernel_rfl) (by simp) ?_
      refine AllReady.cons rfl (fun K hK => ?_) AllReady.nil
      (refine step_append_open rfl _ _ rfl (fun k => P k ∧ k ≠ b) v zs (by omega) (HO0.out.frame (P := fun _ => False) (by first | exact ((Frame.refl _ _).drew).alloc _ | exact ((Frame.refl _ _).alloc _).drew) (fun _ _ h => h)) rfl _ _ s rfl (by go_simp; try with_reducible rfl) ?_; intro v' w' hO' hF'; have hK' := hF'.block b (by simp; omega) (fun e => e.2 rfl); have d2 : w'.cell? ⟨b, 37, none⟩ = some v := (World.cell?_of_block hK').trans (by go_simp; try with_reducible rfl); have e2 : w'.frozen? ⟨b, 37, none⟩ = false := (World.frozen?_of_block hK').trans (by go_simp; try with_reducible rfl); have HK' := Lib.hid hK'; clear hK'; obtain ⟨g', off', cap', rfl, hO1⟩ := openAt_some hO'; have HO' := Lib.hid hO1; have HF' := Lib.hid hF'; clear hO' hO1 hF')
      refine hK _ _ ?_
      clear hK K
      refine wpAny_take (i := 11) (v := ?_) rfl (by kernel_rfl) (by kernel_rfl) (by kernel_rfl) (fun _ _ _ h => h) (Or.inl ⟨by rfl, ?_⟩) ?_
      rotate_left 1
      · intro w; go_simp; try with_reducible rfl
      refine wpAny_take (i := 12) (v := ?_) rfl (by kernel_rfl) (by kernel_rfl) (by kernel_rfl) (fun _ _ _ h => h) (Or.inl ⟨by rfl, ?_⟩) ?_
      rotate_left 1
      · intro w; go_simp; try with_reducible rfl
      refine wpAny_ready (rs := [13]) (by kernel_rfl) (by simp) ?_
      refine AllReady.cons rfl (fun K hK => ?_) AllReady.nil
      go_simp
      refine hK _ _ ?_
      clear hK K
      refine wpAny_done (by kernel_rfl) ?_ _
      obtain ⟨hL1, hR1, hr1, hg1, hg2, hg3, hF1⟩ := rst_mid (P := P) (Value.slice (some ⟨g', off', none⟩) (zs.length + 1) cap') HL0.out HR0.out hb0 OO.out.own (by first | exact ((Frame.refl _ _).drew).alloc _ | exact ((Frame.refl _ _).alloc _).drew) HF'.out HO'.out.1 HO'.out.2.1 HO'.out.2.2
      clear HO' HF' d2 e2 HK' HL0 HR0 HO0 c0 c1 c2 f0 f1 f2
      generalize w'.setCell ⟨b, 37, none⟩ (Value.slice (some ⟨g', off', none⟩) (zs.length + 1) cap') = w1 at *
      have hF2 : Frame P w w1 := HF0.out.trans hF1
      have hg4 : P g' ∨ w.heap.size ≤ g' := hg3.imp id (fun h => Nat.le_trans HF0.out.size h)
      have hlen : (zs ++ [s]).length = zs.length + 1 := by simp
      obtain ⟨c0, c1, c2, f0, f1, f2⟩ := hL1
      have HL := Lib.hid (rlinkAt_of c0 c1 c2 f0 f1 f2)
      have HR1 := Lib.hid hR1
      have HRow := Lib.hid hr1
      have HF2 := Lib.hid hF2
      have HG := Lib.hid hg4
      have HLen := Lib.hid hlen
      clear hR1 hr1 hF1 hF2 hg3 hg4 hlen HF0
      have hcap : zs.length + 1 ≤ cap' := by rw [← HLen.out]; exact HRow.out.le
      obtain ⟨n, hn⟩ : ∃ n, n = zs.length + 1 := ⟨_, rfl⟩
      rw [← hn]
      have HN := Lib.hid hn
      rw [← hn] at hcap c2
      have hn65 : n ≤ 65 := by omega
      clear hn
      by_cases hbig : n = 65
      · subst hbig
        have hcI : (65 : Int) ≤ (cap' : Int) := by omega
        go_wp2_with fail
        refine (rlast_any b is l c _ (HR1.out.setOut 37 (Or.inr (by decide)) _)).mono ?_
        rintro e w2 ⟨⟨m, rfl, hm, hbits⟩, rfl⟩
        have HM := Lib.hid (And.intro hm hbits)
        clear hm hbits
        go_wp2_with fail
        go_ret3
        have hF3 : Frame P w1 (w1.setCell ⟨b, 37, none⟩ (Value.slice (some ⟨g', off' + 1, none⟩) 64 (cap' - 1))) := (Frame.refl P w1).setCell (x := ⟨b, 37, none⟩) OO.out.own _
        have hO3 := (Only.refl b w1).setCell (p := ⟨b, 37, none⟩) rfl (Value.slice (some ⟨g', off' + 1, none⟩) 64 (cap' - 1))
        have hr3 := cut_row (HRow.out.block (hO3.block g' hg2)) 1 (by rw [HLen.out, ← HN.out])
        have hl3 : (cut64 (zs ++ [s])).length = 64 := by unfold cut64; rw [List.length_drop, HLen.out, ← HN.out]
        have hg5 : g' < (w1.setCell ⟨b, 37, none⟩ (Value.slice (some ⟨g', off' + 1, none⟩) 64 (cap' - 1))).heap.size := by rw [hO3.size]; exact hg1
        refine ⟨m, rfl, HM.out.1, HM.out.2, HF2.out.trans hF3, fun k => (P k ∨ w.heap.size ≤ k) ∧ k < (w1.setCell ⟨b, 37, none⟩ (Value.slice (some ⟨g', off' + 1, none⟩) 64 (cap' - 1))).heap.size, fun k hk => hk.1, ⟨⟨_, HL.out.setOpen _, Or.inr ⟨g', off' + 1, cap' - 1, by rw [hl3], ⟨⟨HG.out, hg5⟩, hg2⟩, hg5, hr3⟩⟩, HR1.out.setOut 37 (Or.inr (by decide)) _, ⟨Or.inl OO.out.own, Nat.lt_of_lt_of_le hb (HF2.out.trans hF3).size⟩, fun k hk => hk.2⟩⟩
      · have hn64 : n ≤ 64 := by omega
        go_wp2_with fail
        refine (rlast_any b is l c _ HR1.out).mono ?_
        rintro e w2 ⟨⟨m, rfl, hm, hbits⟩, rfl⟩
        have HM := Lib.hid (And.intro hm hbits)
        clear hm hbits
        go_wp2_with fail
        go_ret3
        refine ⟨m, rfl, HM.out.1, HM.out.2, HF2.out, fun k => (P k ∨ w.heap.size ≤ k) ∧ k < w1.heap.size, fun k hk => hk.1, ⟨⟨_, HL.out, Or.inr ⟨g', off', cap', by rw [cut_id (by rw [HLen.out]; have := HN.out; omega), HLen.out, ← HN.out], ⟨⟨HG.out, hg1⟩, hg2⟩, hg1, by rw [cut_id (by rw [HLen.out]; have := HN.out; omega)]; exact HRow.out⟩⟩, HR1.out, ⟨Or.inl OO.out.own, Nat.lt_of_lt_of_le hb HF2.out.size⟩, fun k hk => hk.2⟩⟩
end Go.Proofs.Ytfadaakogpbgfaa
