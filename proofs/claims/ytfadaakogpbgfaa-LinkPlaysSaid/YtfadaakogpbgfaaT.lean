/-
  Link: a link and the blocks that it owns; append to a row; same.
-/
import Derived.Test.YtfadaakogpbgfaaS
namespace Go.Proofs.Ytfadaakogpbgfaa
set_option linter.unusedVariables false
open Go.ChangeShapes Go.WideShapes Go.ChangeAt Go.RowKit Go.Sort

/-- A link at h + 1 that owns the blocks of P. -/
structure Lk (w : World) (P : Nat → Prop) (h : Nat) (nx t l : Int) (m : Nat) (is : Bool) (zs : List Int) : Prop where
  ex : ∃ v, LinkAt w (h + 1) nx v h t ∧ OpenAt w (fun k => P k ∧ k ≠ h ∧ k ≠ h + 1) v zs
  heard : HeardAt w h is l m
  own0 : P h
  own1 : P (h + 1)
  lt : ∀ k, P k → k < w.heap.size
theorem OpenAt.lt {w : World} {R : Nat → Prop} {v : Value} {zs : List Int} (h : OpenAt w R v zs) : OpenAt w (fun k => R k ∧ k < w.heap.size) v zs := by
  rcases h with h | ⟨g, off, cap, h1, h2, h3, h4⟩
  · exact Or.inl h
  · exact Or.inr ⟨g, off, cap, h1, ⟨h2, h3⟩, h3, h4⟩
theorem OpenAt.frame {w w' : World} {R P : Nat → Prop} {v : Value} {zs : List Int} (h : OpenAt w R v zs) (f : Frame P w w') (d : ∀ k, R k → ¬ P k) : OpenAt w' R v zs := by
  rcases h with h | ⟨g, off, cap, h1, h2, h3, h4⟩
  · exact Or.inl h
  · exact Or.inr ⟨g, off, cap, h1, h2, Nat.lt_of_lt_of_le h3 f.size, h4.block (f.block g h3 (d g h2))⟩
theorem Lk.frame {w w' : World} {P Q : Nat → Prop} {h : Nat} {nx t l : Int} {m : Nat} {is : Bool} {zs : List Int} (o : Lk w Q h nx t l m is zs) (f : Frame P w w') (d : ∀ k, Q k → ¬ P k) : Lk w' Q h nx t l m is zs := by
  obtain ⟨v, hL, hO⟩ := o.ex
  exact ⟨⟨v, hL.block (f.block _ (o.lt _ o.own1) (d _ o.own1)), hO.frame f (fun k hk => d k hk.1)⟩, o.heard.block (f.block _ (o.lt _ o.own0) (d _ o.own0)), o.own0, o.own1, fun k hk => Nat.lt_of_lt_of_le (o.lt k hk) f.size⟩
theorem Frame.of_below {w w' : World} (b : Below w.heap.size w w') (P : Nat → Prop) : Frame P w w' := ⟨b.os, b.tape, b.output, b.size, fun k hk _ => b.block k hk⟩
theorem lk_new (t : Int) (w : World) :
    Calls Try.prog 7 #[.int .i64 t] w fun e w' => e = .returned (.pointer (some ⟨w.heap.size + 1, 0, none⟩)) ∧ Lk w' (fun k => k = w.heap.size ∨ k = w.heap.size + 1) w.heap.size 1 t 0 0 false [] ∧ w'.heap.size = w.heap.size + 2 ∧ Below w.heap.size w w' := by
  refine (new_link t w).mono ?_
  rintro e w' ⟨rfl, h1, h2, h3, h4⟩
  exact ⟨rfl, ⟨⟨_, h1, Or.inl ⟨rfl, rfl⟩⟩, h2, Or.inl rfl, Or.inr rfl, fun k hk => by omega⟩, h3, h4⟩
theorem lk_stamp {w : World} {P : Nat → Prop} {h : Nat} {nx t l : Int} {m : Nat} {is : Bool} {zs : List Int} (o : Lk w P h nx t l m is zs) (hz : zs.length ≤ 64) :
    Calls Try.prog 10 #[.pointer (some ⟨h + 1, 0, none⟩)] w fun e w' => e = .returned (.tuple #[.int .u16 nx, .int .u16 l, .int .u32 m]) ∧ Frame P w w' ∧ ∃ P', (∀ k, P' k → P k ∨ w.heap.size ≤ k) ∧ Lk w' P' h (IntKind.u16.wrap (nx + 1)) t l m is (cut64 (zs ++ [nx])) := by
  obtain ⟨v, hL, hO⟩ := o.ex
  have l0 := o.lt _ o.own0
  have l1 := o.lt _ o.own1
  refine (stamp_any (h + 1) h nx t l m is v _ zs hz w hL hO (fun e => e.2.2 rfl) (fun e => e.2.1 rfl) o.heard (by omega) l1 l0).mono ?_
  rintro e w' ⟨rfl, v', h1, h2, h3, h4⟩
  have hF : Frame P w w' := h4.mono (fun k hk => by rcases hk with rfl | hk; exact o.own1; exact hk.1)
  refine ⟨rfl, hF, fun k => (P k ∨ w.heap.size ≤ k) ∧ k < w'.heap.size, fun k hk => hk.1, ⟨v', h1, h3.lt.mono fun k hk => ⟨⟨?_, hk.2⟩, ?_, ?_⟩⟩, h2, ⟨Or.inl o.own0, Nat.lt_of_lt_of_le l0 hF.size⟩, ⟨Or.inl o.own1, Nat.lt_of_lt_of_le l1 hF.size⟩, fun k hk => hk.2⟩
  · rcases hk.1 with hk | hk
    · exact Or.inl hk.1
    · exact Or.inr hk
  · rcases hk.1 with hk | hk
    · exact hk.2.1
    · omega
  · rcases hk.1 with hk | hk
    · exact hk.2.2
    · omega
theorem lk_hear {w : World} {P : Nat → Prop} {h : Nat} {nx t l : Int} {m : Nat} {is : Bool} {zs : List Int} (o : Lk w P h nx t l m is zs) (hz : zs.length ≤ 64) (hm : m < 2 ^ 32) (now s a k : Int) :
    Calls Try.prog 12 #[.pointer (some ⟨h + 1, 0, none⟩), .int .i64 now, .int .u16 s, .int .u16 a, .int .u32 k] w fun e w' => e = .returned (.bool (noteB is l s m)) ∧ Frame P w w' ∧ ∃ P', (∀ k, P' k → P k ∨ w.heap.size ≤ k) ∧ Lk w' P' h nx (max t now) (noteL is l s) (noteM is l s m) true (zs.filter fun x => !toldF x a k) := by
  obtain ⟨v, hL, hO⟩ := o.ex
  have l0 := o.lt _ o.own0
  have l1 := o.lt _ o.own1
  refine (hear_any (h + 1) h nx t l now s a k v _ zs hz m hm is w hL hO o.heard (by omega) l1 l0).mono ?_
  rintro e w' ⟨rfl, v', h1, h2, h3, h4⟩
  have hF : Frame P w w' := h4.mono (fun k hk => by rcases hk with rfl | rfl; exact o.own1; exact o.own0)
  exact ⟨rfl, hF, fun k => (P k ∨ w.heap.size ≤ k) ∧ k < w'.heap.size, fun k hk => hk.1, ⟨v', h1, h3.lt.mono fun k hk => ⟨⟨Or.inr hk.1, hk.2⟩, by omega, by omega⟩⟩, h2, ⟨Or.inl o.own0, Nat.lt_of_lt_of_le l0 hF.size⟩, ⟨Or.inl o.own1, Nat.lt_of_lt_of_le l1 hF.size⟩, fun k hk => hk.2⟩
theorem lk_open {w : World} {P : Nat → Prop} {h : Nat} {nx t l : Int} {m : Nat} {is : Bool} {zs : List Int} (o : Lk w P h nx t l m is zs) (hz : zs.length ≤ 64) :
    Calls Try.prog 17 #[.pointer (some ⟨h + 1, 0, none⟩)] w fun e w' => ∃ v', e = .returned v' ∧ OpenAt w' (fun k => w.heap.size ≤ k) v' zs ∧ Below w.heap.size w w' := by
  obtain ⟨v, hL, hO⟩ := o.ex
  refine (open_any (h + 1) nx v h t _ zs (by omega) w hL hO).mono ?_
  rintro e w' ⟨v', rfl, h1, h2⟩
  exact ⟨v', rfl, h1, h2⟩

theorem frame_row {R : Nat → Prop} {w : World} {g o : Nat} (hR : R g) (y : Value) : Frame R w (w.setCells g o [y]) := by
  rw [World.setCells]
  exact (Frame.refl R w).setCell (x := ⟨g, o, none⟩) hR y
/-- Append one number to a row. -/
theorem wpList_append_open (w : World) {ops : Array Oper} {rest : List Oper} {o : Oper} {a : Act} {Q : Exit → Act → World → Prop}
    (hg : o.guard = none) (s x : Operand) (hop : o.op = Op.call { callee := Callee.builtin Builtin.append, args := #[s, x], argTypes := #[38, 38] })
    (R : Nat → Prop) (v : Value) (zs : List Int) (hzl : zs.length ≤ 100000) (hO : OpenAt w R v zs) (hs : a.eval s = v)
    (ad : Addr) (c : Nat) (y : Int) (hx : a.eval x = .slice (some ad) 1 c) (hc : w.cell? ad = some (.int .u16 y))
    (h : ∀ v' w', OpenAt w' (fun k => R k ∨ w.heap.size ≤ k) v' (zs ++ [y]) → Frame R w w' → wpList Try.prog ops Q rest (a.put o.dst v') w') :
    wpList Try.prog ops Q (o :: rest) a w := by
  obtain ⟨i0, hi, hz0, hz1, hz2⟩ := info_parts (P := Try.prog) (e := 28) (z := .int .u16 0) (size := 1) (bytes := 2) (by kernel_rfl)
  have hnews : ∀ (j : Nat) (u : Value), [Value.int .u16 y][j]? = some u → w.cell? (ad.add j) = some u := by
    intro j u hj
    cases j with
    | zero =>
      simp at hj
      subst hj
      have : ad.add 0 = ad := by cases ad with | mk b o p => cases p <;> rfl
      rw [this]; exact hc
    | succ k => simp at hj
  rcases hO with ⟨rfl, rfl⟩ | ⟨g, off, cap, rfl, hRg, hgs, hr⟩
  · refine wpList_append_grows _ hg s x 38 hop 28 i0 (.int .u16 0) 1 2 Try.underlying38 hi hz0 hz1 hz2 rfl (by decide) none 0 0 [] hs (fun _ => ⟨rfl, rfl⟩) rfl (by intro b hb; cases hb) ad 1 c [.int .u16 y] hx rfl hnews (by intro u hu; simp at hu; subst hu; rfl) (by decide) (by unfold maxLen; omega) (by decide) ?_
    intro v' w1 hown hgrow
    exact h v' w1 ((openAt_own (zs := [y]) (by simpa using hown)).mono fun k hk => Or.inr hk) ((Frame.refl R w).grown hgrow)
  · refine wpList_append_arg _ hg s x 38 hop 28 i0 (.int .u16 0) 1 2 Try.underlying38 hi hz0 hz1 hz2 rfl (by decide) g off zs.length cap (zs.map (Value.int .u16)) hs (by simp) ?qo ad 1 c [.int .u16 y] hx rfl hnews (by intro u hu; simp at hu; subst hu; rfl) ?qs (by unfold maxLen; omega) (by omega) ?room ?grow
    case qo =>
      intro j u hj
      have hjn : j < zs.length := by
        have := (List.getElem?_eq_some_iff.1 hj).1
        simpa using this
      have e : (zs.map (Value.int .u16))[j]? = some (Value.int .u16 (zs.getD j 0)) := by simp [List.getD, List.getElem?_eq_getElem hjn]
      rw [e] at hj
      rw [← hj]
      exact hr.cell j hjn
    case qs =>
      intro hroom j hj
      have hj0 : j = 0 := by simp at hj; exact hj
      subst hj0
      have hc := hr.room zs.length (by omega)
      simpa using hc
    case room =>
      intro hroom
      have hR1 := row_push hr hroom y
      rw [Nat.mul_one]
      have hF := frame_row (w := w) (o := off + zs.length) hRg (Value.int .u16 y)
      exact h _ _ (Or.inr ⟨g, off, cap, by simp, Or.inl hRg, Nat.lt_of_lt_of_le hgs hF.size, hR1⟩) hF
    case grow =>
      intro hfull v' w1 hown hgr
      exact h v' w1 ((openAt_own (zs := zs ++ [y]) (by simpa using hown)).mono fun k hk => Or.inr hk) ((Frame.refl R w).grown hgr)

/-- Nothing but draws. -/
structure Alike (w w' : World) : Prop where
  os : w'.os = w.os
  tape : w'.tape = w.tape
  output : w'.output = w.output
  heap : w'.heap = w.heap
theorem same_true (v v' : Value) (R S : Nat → Prop) (zs : List Int) (hz : zs.length ≤ 100000) (w : World) (h1 : OpenAt w R v zs) (h2 : OpenAt w S v' zs) :
    Calls Try.prog 16 #[v, v'] w fun e w' => e = .returned (.bool true) ∧ Below w.heap.size w w' := by
  have hv : ∀ {v : Value} {R : Nat → Prop}, OpenAt w R v zs → ∃ a c, v = .slice a zs.length c ∧ (0 < zs.length → ∃ g off, a = some ⟨g, off, none⟩ ∧ ∀ i, i < zs.length → w.cell? ⟨g, off + i, none⟩ = some (.int .u16 (zs.getD i 0))) := by
    intro v R ho
    rcases ho with ⟨rfl, hc⟩ | ⟨g, off, cap, rfl, hg1, hg2, hr⟩
    · rw [hc]; exact ⟨none, 0, rfl, fun h => absurd h (by decide)⟩
    · exact ⟨_, _, rfl, fun _ => ⟨g, off, rfl, hr.cell⟩⟩
  obtain ⟨a, c, rfl, hA⟩ := hv h1
  obtain ⟨a', c', rfl, hB⟩ := hv h2
  have HA := Lib.hid hA
  have HB := Lib.hid hB
  clear hv h1 h2 hA hB
  generalize zs.length = L at *
  go_enter Try.func16, Try.ntmps16
  go_wp2
  go_loopw [5] (fun i wr => ∃ j : Nat, j ≤ L ∧ i = .int .i64 j ∧ Alike w wr) (fun i _ => L - (intOf i).toNat)
  case atStart => exact ⟨0, by omega, rfl, ⟨rfl, rfl, rfl, rfl⟩⟩
  case round =>
    obtain ⟨j, hj, rfl, hS⟩ := hrel
    by_cases hjl : j < L
    · obtain ⟨g, off, rfl, hcc⟩ := HA.out (by omega)
      obtain ⟨g', off', rfl, hcc'⟩ := HB.out (by omega)
      have hc : wr.cell? ⟨g, off + j, none⟩ = some (.int .u16 (zs.getD j 0)) := (World.cell?_of_block (by rw [hS.heap])).trans (hcc j hjl)
      have hc' : wr.cell? ⟨g', off' + j, none⟩ = some (.int .u16 (zs.getD j 0)) := (World.cell?_of_block (by rw [hS.heap])).trans (hcc' j hjl)
      have HS := Lib.hid hS
      clear hS
      clear hcc hcc'
      generalize zs.getD j 0 = x at hc hc'
      have hxx : (x != x) = false := by simp
      go_wp2
      go_region
      all_goals go_wp2
      all_goals first | exact ⟨⟨j + 1, by omega, by go_num, ⟨HS.out.os, HS.out.tape, HS.out.output, HS.out.heap⟩⟩, by simp [intOf]; omega⟩ | exact ⟨j + 1, by omega, by go_num, ⟨HS.out.os, HS.out.tape, HS.out.output, HS.out.heap⟩⟩ | (simp [intOf]; omega) | go_roundw
    · go_wp2
      go_ret
      exact ⟨rfl, ⟨hS.os, hS.tape, hS.output, by rw [hS.heap]; exact Nat.le_refl _, fun k _ => by rw [hS.heap]⟩⟩
end Go.Proofs.Ytfadaakogpbgfaa
