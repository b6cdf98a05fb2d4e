/-
  Link: two links and a row, each with blocks of its own; what two ends that hear each other know.
-/
import Derived.Test.YtfadaakogpbgfaaT
namespace Go.Proofs.Ytfadaakogpbgfaa
set_option linter.unusedVariables false
open Go.ChangeShapes Go.WideShapes Go.ChangeAt Go.RowKit Go.Sort

structure St (w wr : World) (B C : Nat) (PA PB PL : Nat → Prop) (nA tA lA : Int) (mA : Nat) (isA : Bool) (zA : List Int) (nB tB lB : Int) (mB : Nat) (isB : Bool) (zB : List Int) (vL : Value) (lost : List Int) : Prop where
  a : Lk wr PA B nA tA lA mA isA zA
  b : Lk wr PB C nB tB lB mB isB zB
  l : OpenAt wr PL vL lost
  lt : ∀ k, PL k → k < wr.heap.size
  ab : ∀ k, PA k → ¬ PB k
  al : ∀ k, PA k → ¬ PL k
  bl : ∀ k, PB k → ¬ PL k
  lo : ∀ k, PA k ∨ PB k ∨ PL k → B ≤ k
  bel : Below B w wr
theorem St.turnA {w wr w2 : World} {B C : Nat} {PA PB PL PA' : Nat → Prop} {nA tA lA : Int} {mA : Nat} {isA : Bool} {zA : List Int} {nB tB lB : Int} {mB : Nat} {isB : Bool} {zB : List Int} {vL : Value} {lost : List Int} {n2 t2 l2 : Int} {m2 : Nat} {is2 : Bool} {z2 : List Int}
    (o : St w wr B C PA PB PL nA tA lA mA isA zA nB tB lB mB isB zB vL lost) (f : Frame PA wr w2) (hp : ∀ k, PA' k → PA k ∨ wr.heap.size ≤ k) (h : Lk w2 PA' B n2 t2 l2 m2 is2 z2) :
    St w w2 B C PA' PB PL n2 t2 l2 m2 is2 z2 nB tB lB mB isB zB vL lost := by
  have h0 := o.lo B (Or.inl o.a.own0)
  have hs := o.a.lt _ o.a.own0
  refine ⟨h, o.b.frame f (fun k hk ha => o.ab k ha hk), o.l.frame f (fun k hk ha => o.al k ha hk), fun k hk => Nat.lt_of_lt_of_le (o.lt k hk) f.size, ?_, ?_, o.bl, ?_, o.bel.trans (f.below B (by omega) (fun k hk => o.lo k (Or.inl hk)))⟩
  · intro k hk hb
    rcases hp k hk with h1 | h1
    · exact o.ab k h1 hb
    · have := o.b.lt k hb; omega
  · intro k hk hl
    rcases hp k hk with h1 | h1
    · exact o.al k h1 hl
    · have := o.lt k hl; omega
  · intro k hk
    rcases hk with hk | hk
    · rcases hp k hk with h1 | h1
      · exact o.lo k (Or.inl h1)
      · omega
    · exact o.lo k (Or.inr hk)
theorem St.turnB {w wr w2 : World} {B C : Nat} {PA PB PL PB' : Nat → Prop} {nA tA lA : Int} {mA : Nat} {isA : Bool} {zA : List Int} {nB tB lB : Int} {mB : Nat} {isB : Bool} {zB : List Int} {vL : Value} {lost : List Int} {n2 t2 l2 : Int} {m2 : Nat} {is2 : Bool} {z2 : List Int}
    (o : St w wr B C PA PB PL nA tA lA mA isA zA nB tB lB mB isB zB vL lost) (f : Frame PB wr w2) (hp : ∀ k, PB' k → PB k ∨ wr.heap.size ≤ k) (h : Lk w2 PB' C n2 t2 l2 m2 is2 z2) :
    St w w2 B C PA PB' PL nA tA lA mA isA zA n2 t2 l2 m2 is2 z2 vL lost := by
  have h0 := o.lo B (Or.inl o.a.own0)
  have hs := o.a.lt _ o.a.own0
  refine ⟨o.a.frame f o.ab, h, o.l.frame f (fun k hk ha => o.bl k ha hk), fun k hk => Nat.lt_of_lt_of_le (o.lt k hk) f.size, ?_, o.al, ?_, ?_, o.bel.trans (f.below B (by omega) (fun k hk => o.lo k (Or.inr (Or.inl hk))))⟩
  · intro k ha hk
    rcases hp k hk with h1 | h1
    · exact o.ab k ha h1
    · have := o.a.lt k ha; omega
  · intro k hk hl
    rcases hp k hk with h1 | h1
    · exact o.bl k h1 hl
    · have := o.lt k hl; omega
  · intro k hk
    rcases hk with hk | hk | hk
    · exact o.lo k (Or.inl hk)
    · rcases hp k hk with h1 | h1
      · exact o.lo k (Or.inr (Or.inl h1))
      · omega
    · exact o.lo k (Or.inr (Or.inr hk))
theorem St.turnL {w wr w2 : World} {B C : Nat} {PA PB PL : Nat → Prop} {nA tA lA : Int} {mA : Nat} {isA : Bool} {zA : List Int} {nB tB lB : Int} {mB : Nat} {isB : Bool} {zB : List Int} {vL : Value} {lost : List Int} {v2 : Value} {z2 : List Int}
    (o : St w wr B C PA PB PL nA tA lA mA isA zA nB tB lB mB isB zB vL lost) (f : Frame PL wr w2) (h : OpenAt w2 (fun k => PL k ∨ wr.heap.size ≤ k) v2 z2) :
    St w w2 B C PA PB (fun k => (PL k ∨ wr.heap.size ≤ k) ∧ k < w2.heap.size) nA tA lA mA isA zA nB tB lB mB isB zB v2 z2 := by
  have h0 := o.lo B (Or.inl o.a.own0)
  have hs := o.a.lt _ o.a.own0
  refine ⟨o.a.frame f o.al, o.b.frame f o.bl, h.lt, fun k hk => hk.2, o.ab, ?_, ?_, ?_, o.bel.trans (f.below B (by omega) (fun k hk => o.lo k (Or.inr (Or.inr hk))))⟩
  · intro k ha hl
    rcases hl.1 with h1 | h1
    · exact o.al k ha h1
    · have := o.a.lt k ha; omega
  · intro k hb hl
    rcases hl.1 with h1 | h1
    · exact o.bl k hb h1
    · have := o.b.lt k hb; omega
  · intro k hk
    rcases hk with hk | hk | hk
    · exact o.lo k (Or.inl hk)
    · exact o.lo k (Or.inr (Or.inl hk))
    · rcases hk.1 with h1 | h1
      · exact o.lo k (Or.inr (Or.inr h1))
      · omega
theorem St.below {w wr w2 : World} {B C : Nat} {PA PB PL : Nat → Prop} {nA tA lA : Int} {mA : Nat} {isA : Bool} {zA : List Int} {nB tB lB : Int} {mB : Nat} {isB : Bool} {zB : List Int} {vL : Value} {lost : List Int}
    (o : St w wr B C PA PB PL nA tA lA mA isA zA nB tB lB mB isB zB vL lost) (k : Below wr.heap.size wr w2) : St w w2 B C PA PB PL nA tA lA mA isA zA nB tB lB mB isB zB vL lost := by
  have f := Frame.of_below k (fun _ => False)
  have h0 := o.lo B (Or.inl o.a.own0)
  have hs := o.a.lt _ o.a.own0
  exact ⟨o.a.frame f (fun _ _ h => h), o.b.frame f (fun _ _ h => h), o.l.frame f (fun _ _ h => h), fun k hk => Nat.lt_of_lt_of_le (o.lt k hk) f.size, o.ab, o.al, o.bl, o.lo, o.bel.trans (k.mono (by omega))⟩
theorem st_stampA {w wr : World} {B C : Nat} {PA PB PL : Nat → Prop} {nA tA lA : Int} {mA : Nat} {isA : Bool} {zA : List Int} {nB tB lB : Int} {mB : Nat} {isB : Bool} {zB : List Int} {vL : Value} {lost : List Int} (o : St w wr B C PA PB PL nA tA lA mA isA zA nB tB lB mB isB zB vL lost) (hz : zA.length ≤ 64) :
    Calls Try.prog 10 #[.pointer (some ⟨B + 1, 0, none⟩)] wr fun e w' => e = .returned (.tuple #[.int .u16 nA, .int .u16 lA, .int .u32 mA]) ∧ ∃ PA', St w w' B C PA' PB PL (IntKind.u16.wrap (nA + 1)) tA lA mA isA (cut64 (zA ++ [nA])) nB tB lB mB isB zB vL lost := by
  refine (lk_stamp o.a hz).mono ?_
  rintro e w' ⟨rfl, f, P', h1, h2⟩
  exact ⟨rfl, P', o.turnA f h1 h2⟩
theorem st_stampB {w wr : World} {B C : Nat} {PA PB PL : Nat → Prop} {nA tA lA : Int} {mA : Nat} {isA : Bool} {zA : List Int} {nB tB lB : Int} {mB : Nat} {isB : Bool} {zB : List Int} {vL : Value} {lost : List Int} (o : St w wr B C PA PB PL nA tA lA mA isA zA nB tB lB mB isB zB vL lost) (hz : zB.length ≤ 64) :
    Calls Try.prog 10 #[.pointer (some ⟨C + 1, 0, none⟩)] wr fun e w' => e = .returned (.tuple #[.int .u16 nB, .int .u16 lB, .int .u32 mB]) ∧ ∃ PB', St w w' B C PA PB' PL nA tA lA mA isA zA (IntKind.u16.wrap (nB + 1)) tB lB mB isB (cut64 (zB ++ [nB])) vL lost := by
  refine (lk_stamp o.b hz).mono ?_
  rintro e w' ⟨rfl, f, P', h1, h2⟩
  exact ⟨rfl, P', o.turnB f h1 h2⟩
theorem st_hearA {w wr : World} {B C : Nat} {PA PB PL : Nat → Prop} {nA tA lA : Int} {mA : Nat} {isA : Bool} {zA : List Int} {nB tB lB : Int} {mB : Nat} {isB : Bool} {zB : List Int} {vL : Value} {lost : List Int} (o : St w wr B C PA PB PL nA tA lA mA isA zA nB tB lB mB isB zB vL lost) (hz : zA.length ≤ 64) (hm : mA < 2 ^ 32) (now s a k : Int) :
    Calls Try.prog 12 #[.pointer (some ⟨B + 1, 0, none⟩), .int .i64 now, .int .u16 s, .int .u16 a, .int .u32 k] wr fun e w' => e = .returned (.bool (noteB isA lA s mA)) ∧ ∃ PA', St w w' B C PA' PB PL nA (max tA now) (noteL isA lA s) (noteM isA lA s mA) true (zA.filter fun x => !toldF x a k) nB tB lB mB isB zB vL lost := by
  refine (lk_hear o.a hz hm now s a k).mono ?_
  rintro e w' ⟨rfl, f, P', h1, h2⟩
  exact ⟨rfl, P', o.turnA f h1 h2⟩
theorem st_hearB {w wr : World} {B C : Nat} {PA PB PL : Nat → Prop} {nA tA lA : Int} {mA : Nat} {isA : Bool} {zA : List Int} {nB tB lB : Int} {mB : Nat} {isB : Bool} {zB : List Int} {vL : Value} {lost : List Int} (o : St w wr B C PA PB PL nA tA lA mA isA zA nB tB lB mB isB zB vL lost) (hz : zB.length ≤ 64) (hm : mB < 2 ^ 32) (now s a k : Int) :
    Calls Try.prog 12 #[.pointer (some ⟨C + 1, 0, none⟩), .int .i64 now, .int .u16 s, .int .u16 a, .int .u32 k] wr fun e w' => e = .returned (.bool (noteB isB lB s mB)) ∧ ∃ PB', St w w' B C PA PB' PL nA tA lA mA isA zA nB (max tB now) (noteL isB lB s) (noteM isB lB s mB) true (zB.filter fun x => !toldF x a k) vL lost := by
  refine (lk_hear o.b hz hm now s a k).mono ?_
  rintro e w' ⟨rfl, f, P', h1, h2⟩
  exact ⟨rfl, P', o.turnB f h1 h2⟩

/-- What two ends know of each other: n sent, tk taken, the others lost. -/
structure Two (n tk : Nat) (lost : List Int) (isA : Bool) (lA : Int) (isB : Bool) (lB : Int) (mB : Nat) : Prop where
  cnt : tk + lost.length = n
  a : (isA = false ∧ tk = 0) ∨ (isA = true ∧ lA = tk)
  b : (isB = false ∧ tk = 0 ∧ mB = 0) ∨ (isB = true ∧ 0 < tk ∧ ∃ L : Nat, lB = L ∧ 1 ≤ L ∧ L ≤ n ∧ ∀ q : Nat, (q : Int) ∈ lost → q ≠ L ∧ (q < L → mB.testBit (L - q - 1) = false))
  r : ∀ x ∈ lost, ∃ q : Nat, x = q ∧ 1 ≤ q ∧ q ≤ n
theorem told_not (q s : Nat) (m : Nat) (hm : m < 2 ^ 32) (h1 : 1 ≤ q) (hq : q ≤ 40) (hs : s ≤ 40) (hne : q ≠ s) (hb : q < s → m.testBit (s - q - 1) = false) : toldF q s m = false := by
  rw [toldF_eq _ _ _ hm]
  unfold toldN
  have hw := way_eq q s
  have e : way q s = (s : Int) - q := by omega
  rw [e]
  have h0 : ((s : Int) - q == 0) = false := by rw [beq_eq_false_iff_ne]; omega
  rw [h0, Bool.false_or]
  by_cases h : q < s
  · have : ((s : Int) - q).toNat - 1 = s - q - 1 := by omega
    rw [this, hb h, Bool.and_false]
  · have : decide (1 ≤ (s : Int) - q) = false := by simp; omega
    rw [this, Bool.false_and, Bool.false_and]
theorem told_self (s : Int) (m : Nat) (hm : m < 2 ^ 32) : toldF s s m = true := by
  rw [toldF_eq _ _ _ hm]
  unfold toldN
  have hw := way_eq s s
  have e : way s s = 0 := by omega
  rw [e]; simp
theorem two_lost {n tk : Nat} {lost : List Int} {isA : Bool} {lA : Int} {isB : Bool} {lB : Int} {mB : Nat} (h : Two n tk lost isA lA isB lB mB) : Two (n + 1) tk (lost ++ [((n : Int) + 1)]) isA lA isB lB mB := by
  refine ⟨by have := h.cnt; simp; omega, h.a, ?_, ?_⟩
  · rcases h.b with hb | ⟨h1, h2, L, h3, h4, h5, h6⟩
    · exact Or.inl hb
    · refine Or.inr ⟨h1, h2, L, h3, h4, by omega, ?_⟩
      intro q hq
      rcases List.mem_append.1 hq with hq | hq
      · exact h6 q hq
      · rw [List.mem_singleton] at hq
        exact ⟨by omega, fun h => by omega⟩
  · intro x hx
    rcases List.mem_append.1 hx with hx | hx
    · obtain ⟨q, h1, h2, h3⟩ := h.r x hx
      exact ⟨q, h1, h2, by omega⟩
    · rw [List.mem_singleton] at hx
      exact ⟨n + 1, by omega, by omega, by omega⟩
theorem filter_keep {lost : List Int} {p : Int → Bool} (h : ∀ x ∈ lost, p x = false) : (lost.filter fun x => !p x) = lost := by
  rw [List.filter_eq_self]
  intro x hx
  rw [h x hx]; rfl
theorem two_end {n tk : Nat} {lost : List Int} {isA : Bool} {lA : Int} {isB : Bool} {lB : Int} {mB : Nat} (h : Two n tk lost isA lA isB lB mB) (hn : n ≤ 30) (ht : 0 < tk) (hm : mB < 2 ^ 32) : (lost.filter fun x => !toldF x lB mB) = lost := by
  refine filter_keep ?_
  intro x hx
  obtain ⟨q, rfl, h2, h3⟩ := h.r x hx
  rcases h.b with ⟨-, hb, -⟩ | ⟨h1, -, L, rfl, h5, h6, h7⟩
  · omega
  · exact told_not q L mB hm h2 (by omega) (by omega) (h7 q hx).1 (h7 q hx).2
theorem two_hear {n tk : Nat} {lost : List Int} {isA : Bool} {lA : Int} {isB : Bool} {lB : Int} {mB : Nat} (h : Two n tk lost isA lA isB lB mB) (hn : n < 30) (hm : mB < 2 ^ 32) (mA : Nat) :
    noteB isB lB ((n : Int) + 1) mB = true ∧ noteL isB lB ((n : Int) + 1) = (n : Int) + 1 ∧ noteB isA lA ((tk : Int) + 1) mA = true ∧ noteL isA lA ((tk : Int) + 1) = (tk : Int) + 1 ∧
    ((lost ++ [((n : Int) + 1)]).filter fun x => !toldF x ((n : Int) + 1) (noteM isB lB ((n : Int) + 1) mB)) = lost ∧
    Two (n + 1) (tk + 1) lost true ((tk : Int) + 1) true ((n : Int) + 1) (noteM isB lB ((n : Int) + 1) mB) := by
  have hcnt := h.cnt
  have hB : noteB isB lB ((n : Int) + 1) mB = true ∧ noteL isB lB ((n : Int) + 1) = (n : Int) + 1 ∧ ∀ q : Nat, (q : Int) ∈ lost → q ≠ n + 1 ∧ (q < n + 1 → (noteM isB lB ((n : Int) + 1) mB).testBit (n + 1 - q - 1) = false) := by
    rcases h.b with ⟨rfl, -, rfl⟩ | ⟨rfl, -, L, rfl, h5, h6, h7⟩
    · refine ⟨rfl, rfl, fun q hq => ?_⟩
      obtain ⟨q', e, h2, h3⟩ := h.r q hq
      refine ⟨by omega, fun _ => ?_⟩
      show (0 : Nat).testBit _ = false
      exact Nat.zero_testBit _
    · have hw := way_eq L ((n : Int) + 1)
      have e : way L ((n : Int) + 1) = (n : Int) + 1 - L := by omega
      have p1 : 0 < way L ((n : Int) + 1) := by omega
      have p2 : ¬ 32 < way L ((n : Int) + 1) := by omega
      refine ⟨by simp [noteB, p1], by simp [noteL, p1], fun q hq => ?_⟩
      obtain ⟨q', e', h2, h3⟩ := h.r q hq
      refine ⟨by omega, fun _ => ?_⟩
      unfold noteM
      rw [if_neg (by simp), if_neg p2, if_pos p1, e, Nat.testBit_or, bitN, Nat.testBit_two_pow, Nat.testBit_mod_two_pow, Nat.testBit_mul_two_pow]
      have e1 : ((n : Int) + 1 - L).toNat = n + 1 - L := by omega
      rw [e1]
      obtain ⟨g1, g2⟩ := h7 q hq
      have d2 : decide (n + 1 - L - 1 = n + 1 - q - 1) = false := by simp; omega
      rw [d2, Bool.or_false]
      by_cases c : q < L
      · have e2 : n + 1 - q - 1 - (n + 1 - L) = L - q - 1 := by omega
        rw [e2, g2 c]; simp
      · have : decide (n + 1 - L ≤ n + 1 - q - 1) = false := by simp; omega
        rw [this]; simp
  have hA : noteB isA lA ((tk : Int) + 1) mA = true ∧ noteL isA lA ((tk : Int) + 1) = (tk : Int) + 1 := by
    rcases h.a with ⟨rfl, -⟩ | ⟨rfl, rfl⟩
    · exact ⟨rfl, rfl⟩
    · have hw := way_eq tk ((tk : Int) + 1)
      have p1 : 0 < way tk ((tk : Int) + 1) := by omega
      exact ⟨by simp [noteB, p1], by simp [noteL, p1]⟩
  have hM := noteM_lt isB lB ((n : Int) + 1) mB hm
  generalize noteM isB lB ((n : Int) + 1) mB = M at *
  refine ⟨hB.1, hB.2.1, hA.1, hA.2, ?_, ⟨by omega, Or.inr ⟨rfl, rfl⟩, Or.inr ⟨rfl, by omega, n + 1, rfl, by omega, by omega, hB.2.2⟩, ?_⟩⟩
  · rw [List.filter_append]
    have e1 : (lost.filter fun x => !toldF x ((n : Int) + 1) M) = lost := by
      refine filter_keep ?_
      intro x hx
      obtain ⟨q, rfl, h2, h3⟩ := h.r x hx
      exact told_not q (n + 1) M hM h2 (by omega) (by omega) (hB.2.2 q hx).1 (hB.2.2 q hx).2
    rw [e1, List.filter_cons, told_self _ _ hM]
    simp
  · intro x hx
    obtain ⟨q, h1, h2, h3⟩ := h.r x hx
    exact ⟨q, h1, h2, by omega⟩
theorem note_again (s : Int) (m : Nat) : noteB true s s m = false ∧ noteL true s s = s ∧ noteM true s s m = m := by
  have hw := way_eq s s
  have e : way s s = 0 := by omega
  exact ⟨by simp [noteB, e], by simp [noteL, e], by simp [noteM, e]⟩
end Go.Proofs.Ytfadaakogpbgfaa
