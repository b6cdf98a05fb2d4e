/-
  Link: Stamp at a row.
-/
import Derived.Test.YtfadaakogpbgfaaF
import Derived.Laws.IdiomCopy
import Derived.Deep.MidRow
namespace Go.Proofs.Ytfadaakogpbgfaa
set_option linter.unusedVariables false
open Go.ChangeShapes Go.WideShapes Go.ChangeAt Go.RowKit Go.Sort

theorem row_push {W : World} {g off cap : Nat} {zs : List Int} (h : RowAt W g off cap zs) (hc : zs.length + 1 ≤ cap) (x : Int) : RowAt (W.setCells g (off + zs.length) [.int .u16 x]) g off cap (zs ++ [x]) := by
  refine ⟨by simpa using hc, ?_, ?_⟩
  · intro j hj
    simp at hj
    by_cases hjn : j < zs.length
    · rw [World.cell?_setCells_out g _ _ _ _ (by intro _ _; left; show off + j < off + zs.length; omega), h.cell j hjn]
      simp [List.getD, List.getElem?_append_left hjn]
    · have e : j = zs.length := by omega
      subst e
      have := World.cell?_setCells_in g [Value.int .u16 x] (off + zs.length) W (by intro j hj; simp at hj; subst hj; exact (h.room zs.length (by omega)).1) 0 (by simp)
      rw [Nat.add_zero] at this
      rw [this]
      simp [List.getD]
  · intro j hj
    exact ⟨World.isSome_setCells g _ _ _ _ (h.room j hj).1, by rw [World.frozen?_setCells]; exact (h.room j hj).2⟩
theorem Frame.mono {P Q : Nat → Prop} {w w' : World} (a : Frame P w w') (h : ∀ k, P k → Q k) : Frame Q w w' := ⟨a.os, a.tape, a.output, a.size, fun k hk hp => a.block k hk (fun hP => hp (h k hP))⟩
theorem cut_row {w : World} {g off cap : Nat} {zs : List Int} (h : RowAt w g off cap zs) (k : Nat) (hk : k = zs.length - 64) : RowAt w g (off + k) (cap - k) (cut64 zs) := by
  have hl := h.le
  unfold cut64
  rw [← hk]
  refine ⟨by simp; omega, ?_, ?_⟩
  · intro j hj
    simp at hj
    rw [show off + k + j = off + (k + j) by omega, h.cell (k + j) (by omega)]
    simp [List.getD]
  · intro j hj
    rw [show off + k + j = off + (k + j) by omega]
    exact h.room (k + j) (by omega)
set_option maxHeartbeats 4000000 in
theorem stamp_2 (b h : Nat) (nx t l m : Int) (is : Bool) (R : Nat → Prop) (g off cap : Nat) (zs : List Int) (hzl : zs.length ≤ 64) (w : World) (a : LinkAt w b nx (.slice (some ⟨g, off, none⟩) zs.length cap) h t) (hr : RowAt w g off cap zs) (hlg : R g) (hgs : g < w.heap.size) (hgb : g ≠ b) (hgh : g ≠ h) (hh : HeardAt w h is l m) (hhb : h ≠ b) (hbs : b < w.heap.size) (hhs : h < w.heap.size) (hlo : ∀ k, w.heap.size ≤ k → R k) :
    Calls Try.prog 10 #[.pointer (some ⟨b, 0, none⟩)] w fun e w' => e = .returned (.tuple #[.int .u16 nx, .int .u16 l, .int .u32 m]) ∧ ∃ v', LinkAt w' b (IntKind.u16.wrap (nx + 1)) v' h t ∧ HeardAt w' h is l m ∧ OpenAt w' R v' (cut64 (zs ++ [nx])) ∧ Frame (fun k => k = b ∨ k = g) w w' := by
  obtain ⟨i0, hi, hz0, hz1, hz2⟩ := info_parts (P := Try.prog) (e := 28) (z := .int .u16 0) (size := 1) (bytes := 2) (by kernel_rfl)
  obtain ⟨c0, c1, c2, c3, f0, f1, f2, f3⟩ := a
  have hne := Ne.symm hhb
  have HR := Lib.hid hr
  go_enter Try.func10, Try.ntmps10
  go_wp2_with (at_builtin; refine wpList_append_arg _ rfl _ _ 38 rfl 28 i0 (.int .u16 0) 1 2 Try.underlying38 hi hz0 hz1 hz2 rfl (by decide) g off zs.length cap (zs.map (Value.int .u16)) rfl ?ql ?qo _ 1 _ [.int .u16 nx] rfl rfl ?qc ?q1 ?qs ?qb1 ?qb2 ?room ?grow)
  case ql => simp
  case qb1 => unfold maxLen; omega
  case qb2 => omega
  case q1 => intro u hu; simp at hu; subst hu; rfl
  case qc =>
    intro j u hj
    cases j with
    | zero =>
      simp at hj
      subst hj
      rw [Addr.add_lit]
      go_simp
    | succ k => simp at hj
  case qo =>
    intro j u hj
    have hjn : j < zs.length := by
      have := (List.getElem?_eq_some_iff.1 hj).1
      simpa using this
    have e : (zs.map (Value.int .u16))[j]? = some (Value.int .u16 (zs.getD j 0)) := by simp [List.getD, List.getElem?_eq_getElem hjn]
    rw [e] at hj
    rw [← hj]
    have hc := HR.out.cell j hjn
    have hF0 := ((Frame.refl (fun k => k = b) w).setCell (x := ⟨b, 0, none⟩) rfl (Value.int IntKind.u16 (IntKind.u16.wrap (nx + 1)))).alloc (Obj.cells #[Value.int IntKind.u16 nx] 28)
    rw [← hc]
    exact World.cell?_of_block (w := w) (hF0.block g hgs hgb)
  case qs =>
    intro hroom j hj
    have hF0 := ((Frame.refl (fun k => k = b) w).setCell (x := ⟨b, 0, none⟩) rfl (Value.int IntKind.u16 (IntKind.u16.wrap (nx + 1)))).alloc (Obj.cells #[Value.int IntKind.u16 nx] 28)
    have hj0 : j = 0 := by simp at hj; exact hj
    subst hj0
    have hc := (HR.out.block (hF0.block g hgs hgb)).room zs.length (by omega)
    simpa using hc
  case room =>
    intro hroom
    have hF0 := (((Frame.refl (fun k => k = b) w).setCell (x := ⟨b, 0, none⟩) rfl (Value.int IntKind.u16 (IntKind.u16.wrap (nx + 1)))).alloc (Obj.cells #[Value.int IntKind.u16 nx] 28))
    have hR1 := row_push (HR.out.block (hF0.block g hgs hgb)) hroom nx
    have hF := (hF0.mono (Q := fun k => k = b ∨ k = g) (fun k hk => Or.inl hk)).setCell (x := ⟨g, off + zs.length, none⟩) (Or.inr rfl) (Value.int IntKind.u16 nx)
    have hL : LinkAt ((w.setCell ⟨b, 0, none⟩ (Value.int IntKind.u16 (IntKind.u16.wrap (nx + 1)))).alloc (Obj.cells #[Value.int IntKind.u16 nx] 28)) b (IntKind.u16.wrap (nx + 1)) (Value.slice (some ⟨g, off, none⟩) zs.length cap) h t := by
      refine linkAt_of ?_ ?_ ?_ ?_ ?_ ?_ ?_ ?_
      all_goals go_light
      all_goals go_simp
    have hb1 : b < ((w.setCell ⟨b, 0, none⟩ (Value.int IntKind.u16 (IntKind.u16.wrap (nx + 1)))).alloc (Obj.cells #[Value.int IntKind.u16 nx] 28)).heap.size := by simp; omega
    have hL1 := hL.block ((((Only.refl g _).setCell (p := ⟨g, off + zs.length, none⟩) rfl (Value.int IntKind.u16 nx))).block b (Ne.symm hgb))
    have hH1 := hh.block (hF.block h hhs (by intro e; rcases e with e | e; exact hhb e; exact hgh e.symm))
    have hgs1 : g < (((w.setCell ⟨b, 0, none⟩ (Value.int IntKind.u16 (IntKind.u16.wrap (nx + 1)))).alloc (Obj.cells #[Value.int IntKind.u16 nx] 28)).setCell ⟨g, off + zs.length, none⟩ (Value.int IntKind.u16 nx)).heap.size := Nat.lt_of_lt_of_le hgs hF.size
    change RowAt (((w.setCell ⟨b, 0, none⟩ (Value.int IntKind.u16 (IntKind.u16.wrap (nx + 1)))).alloc (Obj.cells #[Value.int IntKind.u16 nx] 28)).setCell ⟨g, off + zs.length, none⟩ (Value.int IntKind.u16 nx)) g off cap (zs ++ [nx]) at hR1
    show wpList _ _ _ _ _ (((w.setCell ⟨b, 0, none⟩ (Value.int IntKind.u16 (IntKind.u16.wrap (nx + 1)))).alloc (Obj.cells #[Value.int IntKind.u16 nx] 28)).setCell ⟨g, off + zs.length, none⟩ (Value.int IntKind.u16 nx))
    clear hF0 hL hb1 c0 c1 c2 c3 f0 f1 f2 f3 hh hr HR
    generalize (((w.setCell ⟨b, 0, none⟩ (Value.int IntKind.u16 (IntKind.u16.wrap (nx + 1)))).alloc (Obj.cells #[Value.int IntKind.u16 nx] 28)).setCell ⟨g, off + zs.length, none⟩ (Value.int IntKind.u16 nx)) = w1 at *
    obtain ⟨N, hN⟩ : ∃ N, zs.length + 1 = N := ⟨_, rfl⟩
    rw [hN]
    have hw : IntKind.i64.wrap ((N : Int) - 64) = (N : Int) - 64 := IntWalk.i64_in _ (by omega)
    have hmx : max ((N : Int) - 64) 0 = ((N - 64 : Nat) : Int) := by omega
    have hzl2 : (zs ++ [nx]).length = N := by simp; omega
    have hcap : N ≤ cap := by have := hR1.le; omega
    have hcapI : (N : Int) ≤ (cap : Int) := by omega
    have hkN : N - 64 ≤ N := by omega
    have hkNI : ((N - 64 : Nat) : Int) ≤ (N : Int) := by omega
    have hk0 : (0 : Int) ≤ ((N - 64 : Nat) : Int) := by omega
    have hck : ¬ cap = N - 64 := by omega
    obtain ⟨c0, c1, c2, c3, f0, f1, f2, f3⟩ := hL1
    go_wp2_with fail
    refine region_tail 15 (by kernel_rfl) (by kernel_rfl) ?_
    simp only [List.take_succ_cons, List.take_zero, List.drop_succ_cons, List.drop_zero]
    repeat still_step
    refine wpStill_nil ?_
    have hF2 := (((Frame.refl (fun k => k = b) w1).setCell (x := ⟨b, 1, none⟩) rfl (Value.slice (some ⟨g, off, none⟩) N cap)).drew).setCell (x := ⟨b, 1, none⟩) rfl (Value.slice (some ⟨g, off + (N - 64), none⟩) (N - (N - 64)) (cap - (N - 64)))
    have hL2 : LinkAt (((w1.setCell ⟨b, 1, none⟩ (Value.slice (some ⟨g, off, none⟩) N cap)).drew).setCell ⟨b, 1, none⟩ (Value.slice (some ⟨g, off + (N - 64), none⟩) (N - (N - 64)) (cap - (N - 64)))) b (IntKind.u16.wrap (nx + 1)) (Value.slice (some ⟨g, off + (N - 64), none⟩) (N - (N - 64)) (cap - (N - 64))) h t := by
      refine linkAt_of ?_ ?_ ?_ ?_ ?_ ?_ ?_ ?_
      all_goals go_light
      all_goals go_simp
    have hH2 := hH1.block (hF2.block h (Nat.lt_of_lt_of_le hhs hF.size) hhb)
    have hR2 := cut_row (hR1.block (hF2.block g hgs1 hgb)) (N - 64) (by rw [hzl2])
    have hcl : (cut64 (zs ++ [nx])).length = N - (N - 64) := by unfold cut64; rw [List.length_drop, hzl2]
    have HH := Lib.hid hH2
    have HL := Lib.hid hL2
    have HRR := Lib.hid hR2
    have HF := Lib.hid (hF.trans (hF2.mono (fun k hk => Or.inl hk)))
    have HG := Lib.hid (show g < (((w1.setCell ⟨b, 1, none⟩ (Value.slice (some ⟨g, off, none⟩) N cap)).drew).setCell ⟨b, 1, none⟩ (Value.slice (some ⟨g, off + (N - 64), none⟩) (N - (N - 64)) (cap - (N - 64)))).heap.size from Nat.lt_of_lt_of_le hgs1 hF2.size)
    have HC := Lib.hid hcl
    clear hF2 hL2 hH2 hR2 hF hH1 hR1 hcl hgs1 hw hmx hzl2
    go_wp2_with (go_at_call 19; refine (last_any h is l m _ HH.out).mono ?_; rintro e w4 ⟨rfl, n4, rfl⟩)
    go_ret3
    refine ⟨rfl, _, HL.out.block rfl, HH.out.block rfl, Or.inr ⟨g, off + (N - 64), cap - (N - 64), by rw [HC.out], hlg, HG.out, HRR.out.block rfl⟩, ⟨HF.out.os, HF.out.tape, HF.out.output, HF.out.size, HF.out.block⟩⟩
  case grow =>
    intro hfull v' w1 hown hgr
    have hF0 := (((Frame.refl (fun k => k = b) w).setCell (x := ⟨b, 0, none⟩) rfl (Value.int IntKind.u16 (IntKind.u16.wrap (nx + 1)))).alloc (Obj.cells #[Value.int IntKind.u16 nx] 28))
    have hF := (hF0.mono (Q := fun k => k = b ∨ k = g) (fun k hk => Or.inl hk)).grown hgr
    have hL : LinkAt ((w.setCell ⟨b, 0, none⟩ (Value.int IntKind.u16 (IntKind.u16.wrap (nx + 1)))).alloc (Obj.cells #[Value.int IntKind.u16 nx] 28)) b (IntKind.u16.wrap (nx + 1)) (Value.slice (some ⟨g, off, none⟩) zs.length cap) h t := by
      refine linkAt_of ?_ ?_ ?_ ?_ ?_ ?_ ?_ ?_
      all_goals go_light
      all_goals go_simp
    have hb1 : b < ((w.setCell ⟨b, 0, none⟩ (Value.int IntKind.u16 (IntKind.u16.wrap (nx + 1)))).alloc (Obj.cells #[Value.int IntKind.u16 nx] 28)).heap.size := by simp; omega
    have hL1 := hL.block (hgr.block b hb1 (by simp))
    have hH1 := hh.block (hF.block h hhs (by intro e; rcases e with e | e; exact hhb e; exact hgh e.symm))
    have hO1 := openAt_own (zs := zs ++ [nx]) (by simpa using hown)
    have hsz : w.heap.size ≤ ((w.setCell ⟨b, 0, none⟩ (Value.int IntKind.u16 (IntKind.u16.wrap (nx + 1)))).alloc (Obj.cells #[Value.int IntKind.u16 nx] 28)).heap.size := hF0.size
    rcases hO1 with ⟨-, hc⟩ | ⟨g2, off2, cap2, rfl, hg1, hgs1, hR1⟩
    · simp at hc
    try dsimp only at hg1
    have hg3 : w.heap.size ≤ g2 := by
      first | exact Nat.le_trans hsz hg1 | omega
    have hgb2 : g2 ≠ b := by omega
    have hgh2 : g2 ≠ h := by omega
    clear hF0 hL hb1 hgr hown hsz c0 c1 c2 c3 f0 f1 f2 f3 hh hr HR hg1 hfull
    obtain ⟨N, hN⟩ : ∃ N, zs.length + 1 = N := ⟨_, rfl⟩
    rw [show (zs ++ [nx]).length = N by rw [List.length_append]; exact hN]
    have hw : IntKind.i64.wrap ((N : Int) - 64) = (N : Int) - 64 := IntWalk.i64_in _ (by omega)
    have hmx : max ((N : Int) - 64) 0 = ((N - 64 : Nat) : Int) := by omega
    have hzl2 : (zs ++ [nx]).length = N := by simp; omega
    have hcap : N ≤ cap2 := by have := hR1.le; omega
    have hcapI : (N : Int) ≤ (cap2 : Int) := by omega
    have hkN : N - 64 ≤ N := by omega
    have hkNI : ((N - 64 : Nat) : Int) ≤ (N : Int) := by omega
    have hk0 : (0 : Int) ≤ ((N - 64 : Nat) : Int) := by omega
    have hck : ¬ cap2 = N - 64 := by omega
    obtain ⟨c0, c1, c2, c3, f0, f1, f2, f3⟩ := hL1
    go_wp2_with fail
    refine region_tail 15 (by kernel_rfl) (by kernel_rfl) ?_
    simp only [List.take_succ_cons, List.take_zero, List.drop_succ_cons, List.drop_zero]
    repeat still_step
    refine wpStill_nil ?_
    have hF2 := (((Frame.refl (fun k => k = b) w1).setCell (x := ⟨b, 1, none⟩) rfl (Value.slice (some ⟨g2, off2, none⟩) N cap2)).drew).setCell (x := ⟨b, 1, none⟩) rfl (Value.slice (some ⟨g2, off2 + (N - 64), none⟩) (N - (N - 64)) (cap2 - (N - 64)))
    have hL2 : LinkAt (((w1.setCell ⟨b, 1, none⟩ (Value.slice (some ⟨g2, off2, none⟩) N cap2)).drew).setCell ⟨b, 1, none⟩ (Value.slice (some ⟨g2, off2 + (N - 64), none⟩) (N - (N - 64)) (cap2 - (N - 64)))) b (IntKind.u16.wrap (nx + 1)) (Value.slice (some ⟨g2, off2 + (N - 64), none⟩) (N - (N - 64)) (cap2 - (N - 64))) h t := by
      refine linkAt_of ?_ ?_ ?_ ?_ ?_ ?_ ?_ ?_
      all_goals go_light
      all_goals go_simp
    have hH2 := hH1.block (hF2.block h (Nat.lt_of_lt_of_le hhs hF.size) hhb)
    have hR2 := cut_row (hR1.block (hF2.block g2 hgs1 hgb2)) (N - 64) (by rw [hzl2])
    have hcl : (cut64 (zs ++ [nx])).length = N - (N - 64) := by unfold cut64; rw [List.length_drop, hzl2]
    have HH := Lib.hid hH2
    have HL := Lib.hid hL2
    have HRR := Lib.hid hR2
    have HF := Lib.hid (hF.trans (hF2.mono (fun k hk => Or.inl hk)))
    have HG := Lib.hid (show g2 < (((w1.setCell ⟨b, 1, none⟩ (Value.slice (some ⟨g2, off2, none⟩) N cap2)).drew).setCell ⟨b, 1, none⟩ (Value.slice (some ⟨g2, off2 + (N - 64), none⟩) (N - (N - 64)) (cap2 - (N - 64)))).heap.size from Nat.lt_of_lt_of_le hgs1 hF2.size)
    have HC := Lib.hid hcl
    clear hF2 hL2 hH2 hR2 hF hH1 hR1 hcl hgs1 hw hmx hzl2
    go_wp2_with (go_at_call 19; refine (last_any h is l m _ HH.out).mono ?_; rintro e w4 ⟨rfl, n4, rfl⟩)
    go_ret3
    refine ⟨rfl, _, HL.out.block rfl, HH.out.block rfl, Or.inr ⟨g2, off2 + (N - 64), cap2 - (N - 64), by rw [HC.out], hlo g2 hg3, HG.out, HRR.out.block rfl⟩, ⟨HF.out.os, HF.out.tape, HF.out.output, HF.out.size, HF.out.block⟩⟩
/-- Stamp, whatever is open. -/
theorem stamp_any (b h : Nat) (nx t l m : Int) (is : Bool) (v : Value) (R : Nat → Prop) (zs : List Int) (hzl : zs.length ≤ 64) (w : World) (a : LinkAt w b nx v h t) (ho : OpenAt w R v zs) (hRb : ¬ R b) (hRh : ¬ R h) (hh : HeardAt w h is l m) (hhb : h ≠ b) (hbs : b < w.heap.size) (hhs : h < w.heap.size) :
    Calls Try.prog 10 #[.pointer (some ⟨b, 0, none⟩)] w fun e w' => e = .returned (.tuple #[.int .u16 nx, .int .u16 l, .int .u32 m]) ∧ ∃ v', LinkAt w' b (IntKind.u16.wrap (nx + 1)) v' h t ∧ HeardAt w' h is l m ∧ OpenAt w' (fun k => R k ∨ w.heap.size ≤ k) v' (cut64 (zs ++ [nx])) ∧ Frame (fun k => k = b ∨ R k) w w' := by
  rcases ho with ⟨rfl, rfl⟩ | ⟨g, off, cap, rfl, hRg, hgs, hr⟩
  · refine (stamp_1 b h nx t l m is (fun k => R k ∨ w.heap.size ≤ k) w a hh hhb hbs hhs (fun k hk => Or.inr hk)).mono ?_
    rintro e w' ⟨rfl, v', h1, h2, h3, h4⟩
    exact ⟨rfl, v', h1, h2, h3, h4.mono (fun k hk => Or.inl hk)⟩
  · refine (stamp_2 b h nx t l m is (fun k => R k ∨ w.heap.size ≤ k) g off cap zs hzl w a hr (Or.inl hRg) hgs (fun e => hRb (e ▸ hRg)) (fun e => hRh (e ▸ hRg)) hh hhb hbs hhs (fun k hk => Or.inr hk)).mono ?_
    rintro e w' ⟨rfl, v', h1, h2, h3, h4⟩
    exact ⟨rfl, v', h1, h2, h3, h4.mono (fun k hk => by rcases hk with rfl | rfl; exact Or.inl rfl; exact Or.inr hRg)⟩
end Go.Proofs.Ytfadaakogpbgfaa
