/-
  Serial: the Go text of SerialOnce returns true for every input.
-/
import Derived.Test.YtbafmgjdfbdkkaaF
namespace Go.Proofs.Ytbafmgjdfbdkkaa
set_option linter.unusedVariables false
open Go.ChangeShapes Go.WideShapes Go.ChangeAt Go.RowKit

/-- n bools in memory. -/
structure BoolsAt (w : World) (b o n : Nat) (c : Nat → Bool) : Prop where
  cell : ∀ k, k < n → w.cell? ⟨b, o + k, none⟩ = some (.bool (c k))
  frozen : ∀ k, k < n → w.frozen? ⟨b, o + k, none⟩ = false

theorem BoolsAt.only {w w' : World} {b o n b' : Nat} {c : Nat → Bool} (h : BoolsAt w b o n c) (k : Only b' w w') (hb : b ≠ b') : BoolsAt w' b o n c :=
  ⟨fun i hi => (k.cell (p := ⟨b, o + i, none⟩) hb).trans (h.cell i hi), fun i hi => (k.frozen (p := ⟨b, o + i, none⟩) hb).trans (h.frozen i hi)⟩
theorem HeardAt.only {w w' : World} {b b' : Nat} {is : Bool} {l m : Int} (h : HeardAt w b is l m) (k : Only b' w w') (hb : b ≠ b') : HeardAt w' b is l m :=
  ⟨(k.cell (p := ⟨b, 0, none⟩) hb).trans h.c0, (k.cell (p := ⟨b, 1, none⟩) hb).trans h.c1, (k.cell (p := ⟨b, 2, none⟩) hb).trans h.c2,
   (k.frozen (p := ⟨b, 0, none⟩) hb).trans h.f0, (k.frozen (p := ⟨b, 1, none⟩) hb).trans h.f1, (k.frozen (p := ⟨b, 2, none⟩) hb).trans h.f2⟩

theorem BoolsAt.set {w : World} {b o n : Nat} {c : Nat → Bool} (h : BoolsAt w b o n c) (k : Nat) (hk : k < n) (v : Bool) : BoolsAt (w.setCell ⟨b, o + k, none⟩ (.bool v)) b o n (upd c k v) := by
  constructor
  · intro i hi
    by_cases e : i = k
    · subst e
      simp only [upd, if_pos]
      have := h.cell i hi
      go_simp
    · have := h.cell i hi
      rw [World.cell?_setCell_other _ _ _ _ (by first | (simp; done) | (simp; omega))]
      simp only [upd, if_neg e]
      exact this
  · intro i hi
    rw [World.frozen?_setCell]
    exact h.frozen i hi

theorem boolsAt_new (w : World) (xs : Array Value) (T : TypeId) (n : Nat) (h : ∀ k, k < n → xs[k]? = some (.bool false)) : BoolsAt (w.alloc (.cells xs T)) w.heap.size 0 n (fun _ => false) := by
  constructor
  · intro k hk
    rw [Nat.zero_add, World.cell?_alloc_new]; exact h k hk
  · intro k hk
    rw [World.frozen?_alloc_new]

theorem HeardAt.alloc {w : World} {b : Nat} {is : Bool} {l m : Int} (h : HeardAt w b is l m) (o : Obj) (hb : b < w.heap.size) : HeardAt (w.alloc o) b is l m :=
  ⟨(World.cell?_alloc_lt _ _ _ hb).trans h.c0, (World.cell?_alloc_lt _ _ _ hb).trans h.c1, (World.cell?_alloc_lt _ _ _ hb).trans h.c2,
   (World.frozen?_alloc_old _ _ _ (by simp; omega)).trans h.f0, (World.frozen?_alloc_old _ _ _ (by simp; omega)).trans h.f1, (World.frozen?_alloc_old _ _ _ (by simp; omega)).trans h.f2⟩

/-- The round's facts. -/
def OnceW (a : Int) (B C : Nat) (w wr : World) : Prop :=
  ∃ is l, ∃ m : Nat, ∃ c : Nat → Bool, HeardAt wr B is l m ∧ BoolsAt wr C 0 41 c ∧ Below B w wr ∧ m < 2 ^ 32 ∧ OnceSt a is l m c

theorem falses_41 : ∀ k, k < 41 → (#[Value.bool false, Value.bool false, Value.bool false, Value.bool false, Value.bool false, Value.bool false,
      Value.bool false, Value.bool false, Value.bool false, Value.bool false, Value.bool false, Value.bool false,
      Value.bool false, Value.bool false, Value.bool false, Value.bool false, Value.bool false, Value.bool false,
      Value.bool false, Value.bool false, Value.bool false, Value.bool false, Value.bool false, Value.bool false,
      Value.bool false, Value.bool false, Value.bool false, Value.bool false, Value.bool false, Value.bool false,
      Value.bool false, Value.bool false, Value.bool false, Value.bool false, Value.bool false, Value.bool false,
      Value.bool false, Value.bool false, Value.bool false, Value.bool false, Value.bool false])[k]? = some (Value.bool false) := by
  intro k hk
  show (List.replicate 41 (Value.bool false)).toArray[k]? = _
  rw [List.getElem?_toArray, List.getElem?_replicate, if_pos hk]

set_option maxHeartbeats 400000 in
theorem law_SerialOnce (a0 : Int) (a1 : Option Addr) (len1 cap1 : Nat) (z1 : List Int) (w : World) (w0 : (Lit.int .u16 a0).wf = true) (w1 : IsRow .i64 w a1 len1 cap1 z1) :
    Calls Try.prog 5 #[.int .u16 a0, .slice a1 len1 cap1] w fun e w' => e = .returned (.bool true) ∧ Below w.heap.size w w' := by
  obtain ⟨a00, a01⟩ := u16_bd w0
  have hel := fun h => w1.elem h
  have hle := w1.len_le
  unfold maxLen at hle
  clear w0 w1
  have Hel := Lib.hid hel
  clear hel
  generalize hB0 : w.heap.size = B
  have HB := Lib.hid hB0
  clear hB0
  by_cases hlen : 150 < len1
  · go_enter Try.func5, Try.ntmps5
    go_wp2_with fail
    refine new_named w ?_
    intro b x1 hb hn hB hs
    obtain rfl : B = b := HB.out.symm.trans hb
    clear hb
    go_wp2_with fail
    refine (told_law _).mono ?_
    rintro e x5 ⟨rfl, hB5⟩
    have hB5' : Below B w x5 := hB.trans (hB5.mono (by omega))
    go_wp2_with fail
    go_ret
    exact ⟨rfl, hB5'⟩
  · go_enter Try.func5, Try.ntmps5
    go_wp2_with fail
    refine new_named w ?_
    intro b x1 hb hn hB hs
    obtain rfl : B = b := HB.out.symm.trans hb
    clear hb
    go_wp2_with fail
    have hh := hn.alloc (Obj.cells #[Value.bool false, Value.bool false, Value.bool false, Value.bool false, Value.bool false, Value.bool false,
      Value.bool false, Value.bool false, Value.bool false, Value.bool false, Value.bool false, Value.bool false,
      Value.bool false, Value.bool false, Value.bool false, Value.bool false, Value.bool false, Value.bool false,
      Value.bool false, Value.bool false, Value.bool false, Value.bool false, Value.bool false, Value.bool false,
      Value.bool false, Value.bool false, Value.bool false, Value.bool false, Value.bool false, Value.bool false,
      Value.bool false, Value.bool false, Value.bool false, Value.bool false, Value.bool false, Value.bool false,
      Value.bool false, Value.bool false, Value.bool false, Value.bool false, Value.bool false] 40) hs
    have hb := boolsAt_new x1 _ 40 41 falses_41
    have hB2 := hB.alloc (by omega) (Obj.cells #[Value.bool false, Value.bool false, Value.bool false, Value.bool false, Value.bool false, Value.bool false,
      Value.bool false, Value.bool false, Value.bool false, Value.bool false, Value.bool false, Value.bool false,
      Value.bool false, Value.bool false, Value.bool false, Value.bool false, Value.bool false, Value.bool false,
      Value.bool false, Value.bool false, Value.bool false, Value.bool false, Value.bool false, Value.bool false,
      Value.bool false, Value.bool false, Value.bool false, Value.bool false, Value.bool false, Value.bool false,
      Value.bool false, Value.bool false, Value.bool false, Value.bool false, Value.bool false, Value.bool false,
      Value.bool false, Value.bool false, Value.bool false, Value.bool false, Value.bool false] 40)
    clear hn hB
    generalize (x1.alloc _) = x2 at *
    generalize x1.heap.size = C at *
    have hne : B ≠ C := by omega
    have hne' : C ≠ B := by omega
    go_loopw [7] (fun i wr => ∃ n : Nat, n ≤ len1 ∧ i = .int .i64 n ∧ OnceW a0 B C w wr) (fun i _ => len1 - (intOf i).toNat)
    case atStart => exact ⟨0, by omega, rfl, false, 0, 0, _, hh, hb, hB2, by decide, Or.inl ⟨rfl, rfl, rfl, fun _ => rfl⟩⟩
    case round =>
      obtain ⟨n, hn1, rfl, is, l, m, c, h1, hbo, hB1, hm, hst⟩ := hrel
      clear hh hb hB2
      by_cases hlt : n < len1
      · obtain ⟨b, o, rfl, hbl, hcell, hwf⟩ := Hel.out (by omega)
        have hc := hcell n hlt
        have hx : 0 ≤ IntKind.u64.wrap (z1.getD n 0) := by simp [IntKind.wrap, IntKind.bits, IntKind.signed]; omega
        clear hcell hwf
        generalize z1.getD n 0 = x at *
        have hc' : wr.cell? ⟨b, o + n, none⟩ = some (.int .i64 x) := (hB1.cell (p := ⟨b, o + n, none⟩) (by rw [← HB.out]; exact hbl)).trans hc
        obtain ⟨k, hk⟩ : ∃ k : Nat, (k : Int) = IntKind.u64.wrap x % 41 := ⟨(IntKind.u64.wrap x % 41).toNat, by omega⟩
        have hk1 : k < 41 := by omega
        have Hk := Lib.hid hk
        clear hk hc
        obtain ⟨f1, f2, f3⟩ := once_step a0 is l m c hst k (by omega) _ rfl
        rw [← wrap_u16] at f1 f2 f3
        have F1 := Lib.hid f1
        have F2 := Lib.hid f2
        have F3 := Lib.hid f3
        have HM := Lib.hid hm
        clear f1 f2 f3 hm hst
        have HBO := Lib.hid hbo
        clear hbo
        go_wp2_with fail
        rw [← Hk.out]
        refine (note_any B is l _ m HM.out _ h1).mono ?_
        rintro e x3 ⟨rfl, h3, o3⟩
        have hbo3 := HBO.out.only o3 hne'
        have hm3 := noteM_lt is l (IntKind.u16.wrap (a0 + k)) m HM.out
        have HM3 := Lib.hid hm3
        have ck := hbo3.cell k hk1
        have fk := hbo3.frozen k hk1
        rw [Nat.zero_add] at ck fk
        have hset := fun v => hbo3.set k hk1 v
        rw [Nat.zero_add] at hset
        have HSet := Lib.hid hset
        clear hset hm3 hbo3 hc' h1
        generalize hL : noteL is l (IntKind.u16.wrap (a0 + k)) = L at *
        generalize hMM : noteM is l (IntKind.u16.wrap (a0 + k)) m = M at *
        clear hL hMM
        cases hnb : noteB is l (IntKind.u16.wrap (a0 + k)) m with
        | true =>
          have Hnb := Lib.hid hnb
          have hck := F1.out hnb
          rw [hck] at ck
          clear hnb
          go_wp2_with fail
          have h4 : HeardAt (x3.setCell ⟨C, k, none⟩ (.bool true)) B true L M := h3.only ((Only.refl _ _).setCell rfl _) hne
          refine (last_any B true L M _ h4).mono ?_
          rintro e x5 ⟨rfl, n5, rfl⟩
          have h5 : Below B w ((x3.setCell ⟨C, k, none⟩ (.bool true)).drewN n5) := (hB1.trans (o3.below (Nat.le_refl _))).trans (((Only.refl C x3).setCell rfl _).drewN n5 |>.below (by omega))
          have hrel : OnceW a0 B C w ((x3.setCell ⟨C, k, none⟩ (.bool true)).drewN n5) := by
            have e1 := HSet.out true
            have e2 := F2.out
            rw [hck, Hnb.out] at e2
            exact ⟨true, L, M, _, h4.drewN _, ⟨e1.cell, e1.frozen⟩, h5, HM3.out, e2⟩
          have F3' := Lib.hid (F3.out Hnb.out)
          clear h3 o3 ck fk h4 hB1 h5 hck
          generalize (x3.setCell ⟨C, k, none⟩ (.bool true)).drewN n5 = x6 at hrel ⊢
          go_wp2_with fail
          refine (told_any' _ L M HM3.out _).mono ?_
          rintro e w' ⟨rfl, rfl⟩
          rw [F3'.out]
          go_wp2_with fail
          all_goals first | exact ⟨⟨n + 1, by omega, by go_num, hrel⟩, by simp [intOf]; omega⟩ | exact ⟨n + 1, by omega, by go_num, hrel⟩ | (simp [intOf]; omega) | go_roundw
        | false =>
          have Hnb := Lib.hid hnb
          clear hnb
          cases hck : c k with
          | true =>
            have Hck := Lib.hid hck
            rw [hck] at ck
            clear hck
            go_wp2_with fail
            have h4 : HeardAt (x3.setCell ⟨C, k, none⟩ (.bool true)) B true L M := h3.only ((Only.refl _ _).setCell rfl _) hne
            refine (last_any B true L M _ h4).mono ?_
            rintro e x5 ⟨rfl, n5, rfl⟩
            have h5 : Below B w ((x3.setCell ⟨C, k, none⟩ (.bool true)).drewN n5) := (hB1.trans (o3.below (Nat.le_refl _))).trans (((Only.refl C x3).setCell rfl _).drewN n5 |>.below (by omega))
            have hrel : OnceW a0 B C w ((x3.setCell ⟨C, k, none⟩ (.bool true)).drewN n5) := by
              have e1 := HSet.out true
              have e2 := F2.out
              rw [Hnb.out, Bool.or_false, Hck.out] at e2
              exact ⟨true, L, M, _, h4.drewN _, ⟨e1.cell, e1.frozen⟩, h5, HM3.out, e2⟩
            clear h3 o3 ck fk h4 hB1 h5
            generalize (x3.setCell ⟨C, k, none⟩ (.bool true)).drewN n5 = x6 at hrel ⊢
            go_wp2_with fail
            all_goals first | exact ⟨⟨n + 1, by omega, by go_num, hrel⟩, by simp [intOf]; omega⟩ | exact ⟨n + 1, by omega, by go_num, hrel⟩ | (simp [intOf]; omega) | go_roundw
          | false =>
            have Hck := Lib.hid hck
            rw [hck] at ck
            clear hck
            go_wp2_with fail
            have h4 : HeardAt (x3.setCell ⟨C, k, none⟩ (.bool false)) B true L M := h3.only ((Only.refl _ _).setCell rfl _) hne
            refine (last_any B true L M _ h4).mono ?_
            rintro e x5 ⟨rfl, n5, rfl⟩
            have h5 : Below B w ((x3.setCell ⟨C, k, none⟩ (.bool false)).drewN n5) := (hB1.trans (o3.below (Nat.le_refl _))).trans (((Only.refl C x3).setCell rfl _).drewN n5 |>.below (by omega))
            have hrel : OnceW a0 B C w ((x3.setCell ⟨C, k, none⟩ (.bool false)).drewN n5) := by
              have e1 := HSet.out false
              have e2 := F2.out
              rw [Hnb.out, Bool.or_false, Hck.out] at e2
              exact ⟨true, L, M, _, h4.drewN _, ⟨e1.cell, e1.frozen⟩, h5, HM3.out, e2⟩
            clear h3 o3 ck fk h4 hB1 h5
            generalize (x3.setCell ⟨C, k, none⟩ (.bool false)).drewN n5 = x6 at hrel ⊢
            go_wp2_with fail
            all_goals first | exact ⟨⟨n + 1, by omega, by go_num, hrel⟩, by simp [intOf]; omega⟩ | exact ⟨n + 1, by omega, by go_num, hrel⟩ | (simp [intOf]; omega) | go_roundw
      · clear hm hst hbo h1
        go_wp2_with fail
        refine (last_nil _).mono ?_
        rintro e w' ⟨rfl, rfl⟩
        go_wp2_with fail
        refine (told_law _).mono ?_
        rintro e x5 ⟨rfl, hB5⟩
        have hB5' : Below B w x5 := hB1.trans (hB5.mono (by have := hB1.size; have := HB.out; omega))
        go_wp2_with fail
        refine (note_nil _ _).mono ?_
        rintro e w' ⟨rfl, rfl⟩
        go_wp2_with fail
        go_ret
        exact ⟨rfl, hB5'⟩
end Go.Proofs.Ytbafmgjdfbdkkaa
