/-
  Stats: both Adds do the same.
-/
import Derived.Test.YtoefnagenooaiaaL
namespace Go.Proofs.Ytoefnagenooaiaa
set_option linter.unusedVariables false
open Go.ChangeShapes Go.WideShapes Go.ChangeAt Go.RowKit
attribute [local go_sem] run_neg_f64 frombits_run bits_run run_store_float


/-- A float that is noted, as g. -/
structure Good (f g : Nat) : Prop where
  lt : f < 18446744073709551616
  rg : FK.rg f = g
  fin : g < 9218868437227405312
  t1 : (fo f f != some .eq) = false
  t2 : (fo f 9218868437227405311 == some .gt) = false
  t3 : (fo f 0 == some .lt) = false
  is : f = g ∨ ((fo f 0 == some .eq) = true ∧ g = 0)
  ge : (fo f 0 == some .gt || fo f 0 == some .eq) = true
  le : (fo f 9218868437227405311 == some .lt || fo f 9218868437227405311 == some .eq) = true
/-- A float that is none to be noted. -/
structure NoGood (f : Nat) : Prop where
  prog : ∀ b w, Calls Try.prog 11 #[.pointer (some ⟨b, 0, none⟩), .float .f64 f] w fun e w' => e = .returned (.bool false) ∧ w = w'
  ref : ∀ b w, Calls Try.prog 12 #[.pointer (some ⟨b, 0, none⟩), .float .f64 f] w fun e w' => e = .returned (.bool false) ∧ w = w'
  ok : (fo f 0 == some .gt || fo f 0 == some .eq) = false ∨ (fo f 9218868437227405311 == some .lt || fo f 9218868437227405311 == some .eq) = false
theorem classify {f : Nat} (hf : f < 18446744073709551616) : Good f (FK.rg f) ∨ NoGood f := by
  have n1 := nanB_eq f
  unfold nanB at n1
  by_cases hn : 9218868437227405312 < FK.rg f
  · have t : (fo f f != some .eq) = true := by rw [n1]; simp [hn]
    exact Or.inr ⟨fun b w => add_bad1 b f hf t w, fun b w => radd_bad1 b f t w, Or.inl (by rw [fo_nan hn]; rfl)⟩
  have t1 : (fo f f != some .eq) = false := by rw [n1]; simp; omega
  have g0 := gtB_eq (x := f) (y := 9218868437227405311) (by omega) rg_max
  have l0 := ltB_eq (x := f) (y := 0) (by omega) rg_0
  have ge := geB_eq (x := f) (y := 0) (by omega) rg_0
  have le := leB_eq (x := f) (y := 9218868437227405311) (by omega) rg_max
  unfold gtB at g0
  unfold ltB at l0
  unfold geB at ge
  unfold leB at le
  rw [sr_max] at g0 le
  rw [sr_0] at l0 ge
  have hs : FK.sr f = if FK.sg f then -(FK.rg f : Int) else FK.rg f := rfl
  by_cases hlt : FK.sr f < 0
  · have t3 : (fo f 0 == some .lt) = true := by rw [l0]; simp [hlt]
    have t2 : (fo f 9218868437227405311 == some .gt) = false := by rw [g0]; simp; omega
    refine Or.inr ⟨fun b w => ?_, fun b w => radd_bad3 b f t1 t2 t3 w, Or.inl (by rw [ge]; simp; omega)⟩
    by_cases hi : FK.rg f = 9218868437227405312
    · exact add_bad2 b f _ hf rfl t1 (by rw [hi]; decide +kernel) w
    · exact add_bad3 b f _ hf rfl t1 (pos_tests (by omega)).2.2.1 t3 w
  by_cases hi : FK.rg f = 9218868437227405312
  · have hg : FK.sg f = false := by
      cases hg : FK.sg f
      · rfl
      · rw [hg] at hs; simp at hs; omega
    rw [hg] at hs
    simp at hs
    refine Or.inr ⟨fun b w => add_bad2 b f _ hf rfl t1 (by rw [hi]; decide +kernel) w, fun b w => radd_bad2 b f t1 (by rw [g0]; simp; omega) w, Or.inr (by rw [le]; simp; omega)⟩
  have e := FK.mkw_self f hf
  refine Or.inl ⟨hf, rfl, by omega, t1, ?_, by rw [l0]; simp; omega, ?_, by rw [ge]; simp; omega, ?_⟩
  · rw [g0]; cases hg : FK.sg f <;> rw [hg] at hs <;> simp at hs <;> simp <;> omega
  · cases hg : FK.sg f
    · rw [hg, FK.mkf] at e; exact Or.inl e.symm
    · rw [hg] at hs
      simp at hs
      have h0 : FK.rg f = 0 := by omega
      refine Or.inr ⟨?_, h0⟩
      have q := FK.eq_iff (x := f) (y := 0) (by omega) (by decide)
      rw [show (fo f 0 == some .eq) = (Ieee.double.order f 0 == some .eq) from rfl, q]
      simp [sr_0]; omega
  · rw [le]; cases hg : FK.sg f <;> rw [hg] at hs <;> simp at hs <;> simp <;> omega

theorem add_good_first {f g : Nat} (G : Good f g) (b : Nat) (m s l h : Nat) (w : World) (a : LineAt w b 0 m s l h) :
    Calls Try.prog 11 #[.pointer (some ⟨b, 0, none⟩), .float .f64 f] w fun e w' => e = .returned (.bool true) ∧ LineAt w' b 1 g 0 g g ∧ Only b w w' :=
  add_first b m s l h f g G.lt w a G.rg G.t1 (pos_tests G.fin).2.2.1 G.t3
theorem add_good_more {f g : Nat} (G : Good f g) (b : Nat) (n : Int) (m s l h d p m' d2 p2 s' : Nat) (h1 : FK.Step m g 4620693217682128896 d p m') (h2 : FK.Step s (FK.rg d) 4616189618054758400 d2 p2 s') (hl : l < 9218868437227405312) (hh : h < 9218868437227405312) (n0 : 1 ≤ n) (n1 : n < 1000) (w : World) (a : LineAt w b n m s l h) :
    Calls Try.prog 11 #[.pointer (some ⟨b, 0, none⟩), .float .f64 f] w fun e w' => e = .returned (.bool true) ∧ LineAt w' b (n + 1) m' s' (min l g) (max h g) ∧ Only b w w' := by
  rcases G.is with e | ⟨e, e0⟩
  · have hr := G.rg
    have hf := G.fin
    subst e
    exact add_more b n m s l h f hf d p m' d2 p2 s' h1 h2 hl hh n0 n1 w a hr G.t1 G.t2 G.t3
  · have hr := G.rg
    subst e0
    exact add_more_z b n m s l h f G.lt d p m' d2 p2 s' h1 h2 hl hh n0 n1 w a hr G.t1 (by decide +kernel) G.t3
theorem radd_good_first {f g : Nat} (G : Good f g) (b : Nat) (m s l h : Nat) (w : World) (a : LineAt w b 0 m s l h) :
    Calls Try.prog 12 #[.pointer (some ⟨b, 0, none⟩), .float .f64 f] w fun e w' => e = .returned (.bool true) ∧ LineAt w' b 1 g 0 g g ∧ Only b w w' := by
  have hr := G.rg
  cases t4 : (fo f 0 == some .eq) with
  | true =>
    have hg : g = 0 := by
      rcases G.is with e | ⟨-, e⟩
      · rw [← e] at hr ⊢
        have hf := G.fin
        rw [← e] at hf
        rw [ord_pos (by omega) (by decide)] at t4
        rcases cmp_cases (f : Int) ((0 : Nat) : Int) with ⟨h, e⟩ | ⟨h, e⟩ | ⟨h, e⟩ <;> rw [e] at t4 <;> simp at t4 <;> omega
      · exact e
    subst hg
    exact radd_first0 b 0 m s l h f rfl G.lt hr G.t1 G.t2 G.t3 t4 w a
  | false =>
    rcases G.is with e | ⟨e, -⟩
    · subst e
      exact radd_first1 b 0 m s l h f rfl G.t1 G.t2 G.t3 t4 w a
    · rw [e] at t4; cases t4
theorem neg_rg {d : Nat} (hd : d < 18446744073709551616) (hs : FK.sg d = true) : Op.negFloat .f64 d = FK.rg d := by
  have e : Op.negFloat .f64 d = FK.mkw (FK.sg (Op.negFloat .f64 d)) (FK.rg (Op.negFloat .f64 d)) := by
    refine (FK.mkw_self _ ?_).symm
    have e : Op.negFloat .f64 d = d ^^^ 2 ^ 63 := rfl
    rw [e]
    exact Nat.xor_lt_two_pow (n := 64) hd (by decide)
  rw [FK.rg_neg, FK.sg_neg, hs] at e
  rw [e]; rfl
theorem radd_good_more {f g : Nat} (G : Good f g) (b : Nat) (n : Int) (m s l h d p m' d2 p2 s' : Nat) (h1 : FK.Step m g 4620693217682128896 d p m') (h2 : FK.Step s (FK.rg d) 4616189618054758400 d2 p2 s') (hm : m < 9218868437227405312) (hl : l < 9218868437227405312) (hh : h < 9218868437227405312) (n0 : 1 ≤ n) (n1 : n < 1000) (w : World) (a : LineAt w b n m s l h) :
    Calls Try.prog 12 #[.pointer (some ⟨b, 0, none⟩), .float .f64 f] w fun e w' => e = .returned (.bool true) ∧ LineAt w' b (n + 1) m' s' (min l g) (max h g) ∧ Only b w w' := by
  have hr := G.rg
  have hg := G.fin
  have ht5 : ((fo d 0 == some .lt) = true ∧ Op.negFloat .f64 d = FK.rg d) ∨ ((fo d 0 == some .lt) = false ∧ d = FK.rg d) := by
    have hv := h1.dval
    have hdf := h1.dfin
    by_cases hlt : g < m
    · have h0 := step_neg hm hg h1 hlt
      rw [show decide (g < m) = true by simp [hlt]] at hv
      have hs : FK.sg d = true := by rw [hv]; exact FK.sg_mkw _ _ (by omega)
      refine Or.inl ⟨?_, neg_rg h1.dlt hs⟩
      have e := ltB_eq (x := d) (y := 0) (by omega) rg_0
      unfold ltB at e
      rw [e, sr_0]
      have : FK.sr d = -(FK.rg d : Int) := by unfold FK.sr; rw [hs]; rfl
      rw [this]; simp; omega
    · rw [show decide (g < m) = false by simp; omega, FK.mkf] at hv
      rw [← hv] at hdf
      exact Or.inr ⟨(pos_tests hdf).2.2.2.1, hv⟩
  cases t4 : (fo f 0 == some .eq) with
  | true =>
    have hg0 : g = 0 := by
      rcases G.is with e | ⟨-, e⟩
      · rw [← e] at hg ⊢
        rw [ord_pos (by omega) (by decide)] at t4
        rcases cmp_cases (f : Int) ((0 : Nat) : Int) with ⟨h, e⟩ | ⟨h, e⟩ | ⟨h, e⟩ <;> rw [e] at t4 <;> simp at t4 <;> omega
      · exact e
    subst hg0
    have m6 : (fo 0 l == some .lt) = decide (0 < l) := by
      rw [ord_pos (by omega) (by omega)]
      rcases cmp_cases ((0 : Nat) : Int) (l : Int) with ⟨h, e⟩ | ⟨h, e⟩ | ⟨h, e⟩ <;> rw [e] <;> simp <;> omega
    have m7 : (fo 0 h == some .gt) = decide (h < 0) := by
      rw [ord_pos (by omega) (by omega)]
      rcases cmp_cases ((0 : Nat) : Int) (h : Int) with ⟨h, e⟩ | ⟨h, e⟩ | ⟨h, e⟩ <;> rw [e] <;> simp <;> omega
    rcases ht5 with ⟨t5, hd5⟩ | ⟨t5, hd5⟩
    · by_cases c6 : 0 < l
      · have t6 : (fo 0 l == some .lt) = true := by rw [m6]; simp [c6]
        have t7 : (fo 0 h == some .gt) = false := by rw [m7]; simp
        rw [show min l 0 = 0 by omega, show max h 0 = h by omega]
        exact radd_more_znlk b n m s l h f d p m' _ d2 p2 s' G.lt hr n0 n1 h1 h2 hd5 G.t1 G.t2 G.t3 t4 t5 t6 t7 w a
      · have t6 : (fo 0 l == some .lt) = false := by rw [m6]; simp [c6]
        have t7 : (fo 0 h == some .gt) = false := by rw [m7]; simp
        rw [show min l 0 = l by omega, show max h 0 = h by omega]
        exact radd_more_znkk b n m s l h f d p m' _ d2 p2 s' G.lt hr n0 n1 h1 h2 hd5 G.t1 G.t2 G.t3 t4 t5 t6 t7 w a
    · by_cases c6 : 0 < l
      · have t6 : (fo 0 l == some .lt) = true := by rw [m6]; simp [c6]
        have t7 : (fo 0 h == some .gt) = false := by rw [m7]; simp
        rw [show min l 0 = 0 by omega, show max h 0 = h by omega]
        exact radd_more_zplk b n m s l h f d p m' _ d2 p2 s' G.lt hr n0 n1 h1 h2 hd5 G.t1 G.t2 G.t3 t4 t5 t6 t7 w a
      · have t6 : (fo 0 l == some .lt) = false := by rw [m6]; simp [c6]
        have t7 : (fo 0 h == some .gt) = false := by rw [m7]; simp
        rw [show min l 0 = l by omega, show max h 0 = h by omega]
        exact radd_more_zpkk b n m s l h f d p m' _ d2 p2 s' G.lt hr n0 n1 h1 h2 hd5 G.t1 G.t2 G.t3 t4 t5 t6 t7 w a
  | false =>
    have e : f = g := by
      rcases G.is with e | ⟨e, -⟩
      · exact e
      · rw [e] at t4; cases t4
    subst e
    have m6 : (fo f l == some .lt) = decide (f < l) := by
      rw [ord_pos (by omega) (by omega)]
      rcases cmp_cases ((f : Nat) : Int) (l : Int) with ⟨h, e⟩ | ⟨h, e⟩ | ⟨h, e⟩ <;> rw [e] <;> simp <;> omega
    have m7 : (fo f h == some .gt) = decide (h < f) := by
      rw [ord_pos (by omega) (by omega)]
      rcases cmp_cases ((f : Nat) : Int) (h : Int) with ⟨h, e⟩ | ⟨h, e⟩ | ⟨h, e⟩ <;> rw [e] <;> simp <;> omega
    rcases ht5 with ⟨t5, hd5⟩ | ⟨t5, hd5⟩
    · by_cases c6 : f < l
      · have t6 : (fo f l == some .lt) = true := by rw [m6]; simp [c6]
        by_cases c7 : h < f
        · have t7 : (fo f h == some .gt) = true := by rw [m7]; simp [c7]
          rw [show min l f = f by omega, show max h f = f by omega]
          exact radd_more_pnlg b n m s l h f d p m' _ d2 p2 s' G.lt hr n0 n1 h1 h2 hd5 G.t1 G.t2 G.t3 t4 t5 t6 t7 w a
        · have t7 : (fo f h == some .gt) = false := by rw [m7]; simp [c7]
          rw [show min l f = f by omega, show max h f = h by omega]
          exact radd_more_pnlk b n m s l h f d p m' _ d2 p2 s' G.lt hr n0 n1 h1 h2 hd5 G.t1 G.t2 G.t3 t4 t5 t6 t7 w a
      · have t6 : (fo f l == some .lt) = false := by rw [m6]; simp [c6]
        by_cases c7 : h < f
        · have t7 : (fo f h == some .gt) = true := by rw [m7]; simp [c7]
          rw [show min l f = l by omega, show max h f = f by omega]
          exact radd_more_pnkg b n m s l h f d p m' _ d2 p2 s' G.lt hr n0 n1 h1 h2 hd5 G.t1 G.t2 G.t3 t4 t5 t6 t7 w a
        · have t7 : (fo f h == some .gt) = false := by rw [m7]; simp [c7]
          rw [show min l f = l by omega, show max h f = h by omega]
          exact radd_more_pnkk b n m s l h f d p m' _ d2 p2 s' G.lt hr n0 n1 h1 h2 hd5 G.t1 G.t2 G.t3 t4 t5 t6 t7 w a
    · by_cases c6 : f < l
      · have t6 : (fo f l == some .lt) = true := by rw [m6]; simp [c6]
        by_cases c7 : h < f
        · have t7 : (fo f h == some .gt) = true := by rw [m7]; simp [c7]
          rw [show min l f = f by omega, show max h f = f by omega]
          exact radd_more_pplg b n m s l h f d p m' _ d2 p2 s' G.lt hr n0 n1 h1 h2 hd5 G.t1 G.t2 G.t3 t4 t5 t6 t7 w a
        · have t7 : (fo f h == some .gt) = false := by rw [m7]; simp [c7]
          rw [show min l f = f by omega, show max h f = h by omega]
          exact radd_more_pplk b n m s l h f d p m' _ d2 p2 s' G.lt hr n0 n1 h1 h2 hd5 G.t1 G.t2 G.t3 t4 t5 t6 t7 w a
      · have t6 : (fo f l == some .lt) = false := by rw [m6]; simp [c6]
        by_cases c7 : h < f
        · have t7 : (fo f h == some .gt) = true := by rw [m7]; simp [c7]
          rw [show min l f = l by omega, show max h f = f by omega]
          exact radd_more_ppkg b n m s l h f d p m' _ d2 p2 s' G.lt hr n0 n1 h1 h2 hd5 G.t1 G.t2 G.t3 t4 t5 t6 t7 w a
        · have t7 : (fo f h == some .gt) = false := by rw [m7]; simp [c7]
          rw [show min l f = l by omega, show max h f = h by omega]
          exact radd_more_ppkk b n m s l h f d p m' _ d2 p2 s' G.lt hr n0 n1 h1 h2 hd5 G.t1 G.t2 G.t3 t4 t5 t6 t7 w a

theorem good_steps {m s g : Nat} (hm : m < 9218868437227405312) (hs : s < 9218868437227405312) (hg : g < 9218868437227405312) : ∃ d p m' d2 p2 s', FK.Step m g 4620693217682128896 d p m' ∧ FK.Step s (FK.rg d) 4616189618054758400 d2 p2 s' := by
  obtain ⟨d, p, m', h1⟩ := FK.step8 hm hg
  obtain ⟨d2, p2, s', h2⟩ := FK.step4 hs h1.dfin
  exact ⟨d, p, m', d2, p2, s', h1, h2⟩
end Go.Proofs.Ytoefnagenooaiaa
