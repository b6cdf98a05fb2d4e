/-
  Stats: the Go text of StatsAsks returns true for every input.
-/
import Derived.Test.YtoefnagenooaiaaS
import Derived.Deep.RegionHeld3
import Derived.Lib.QuietBelow
namespace Go.Proofs.Ytoefnagenooaiaa
set_option linter.unusedVariables false
open Go.ChangeShapes Go.WideShapes Go.ChangeAt Go.RowKit Go.Sort
attribute [local go_sem] run_neg_f64 frombits_run bits_run run_store_float

section
variable {P : Program} {ops : Array Oper} {md : Region.Mode} {S C : World → Prop}
theorem wpAnyH_of_quiet {Q : Act → Prop} {Q' : Exit → Act → World → Prop} (hS : ∀ w, C w → S w) (hQ : ∀ a w, C w → Q a → Q' .normal a w) : ∀ (fuel : Nat) (listed : Array Bool) (a : Act) (w : World), C w →
    wpAnyQ P md ops C Q fuel listed a → wpAnyH P md ops Q' S fuel listed a w
  | 0, _, _, _, hw, h => ⟨h.1, hQ _ _ hw h.2⟩
  | fuel + 1, _, _, _, hw, h => ⟨fun h0 => hQ _ _ hw (h.1 h0), fun i hi => wpOp_of_qOp hw (fun a' w' hw' h' => ⟨hS _ hw', wpAnyH_of_quiet hS hQ fuel _ a' w' hw' h'⟩) (h.2 i hi)⟩
/-- From the operation k on everything is quiet: one walk of what is left serves every order. -/
theorem wpAnyH_quiet_tail {Q : Exit → Act → World → Prop} {l rest : List Oper} {o : Oper} (k : Nat) {listed : Array Bool} {a : Act} {w : World} {fuel : Nat} (hr : l.drop k = o :: rest) (hn : rest.length + 1 = fuel) (hs : Region.noSelect l.toArray = true)
    (hB : Region.lexFrom md l.toArray (rest.length + 1) k listed = true) (hC : C w) (hS : ∀ w, C w → S w)
    (h : wpQuiet P l.toArray C (fun a' => ∀ w', C w' → Q .normal a' w') (o :: rest) a) : wpAnyH P md l.toArray Q S fuel listed a w := by
  subst hn
  refine wpAnyH_of_quiet (Q := fun a' => ∀ w', C w' → Q .normal a' w') hS (fun _ w' hw' h => h w' hw') _ _ _ _ hC ?_
  exact wpAnyQ_lex hs (o :: rest) k listed a (fun j => by rw [← hr]; simp) hB h
theorem take_l {Q : Exit → Act → World → Prop} {l rest : List Oper} {i : Nat} {oi : Oper} {v : Value} {fuel : Nat} {listed : Array Bool} {a : Act} {w : World} (hi : l.drop i = oi :: rest)
    (hs : Region.noSelect l.toArray = true) (hf : Region.free md l.toArray listed i = true) (hr : (Region.ready md l.toArray listed).contains i = true)
    (hQ : ∀ c a w, Q (.panic c) (a.put oi.dst v) w → Q (.panic c) a w) (hy : YieldsIf P l.toArray S oi v a) (hS : S w)
    (h : wpAnyH P md l.toArray Q S fuel (listed.setIfInBounds i true) (a.put oi.dst v) w) : wpAnyH P md l.toArray Q S (fuel + 1) listed a w :=
  wpAnyH_take (i := i) (oi := oi) (by have := congrArg (fun x => x[0]?) hi; simpa using this) hs hf hr hQ hy hS h
theorem cons_l {Q : Exit → Act → World → Prop} {l rest : List Oper} {i : Nat} {o : Oper} {fuel : Nat} {listed : Array Bool} {a : Act} {w : World} (hi : l.drop i = o :: rest) (hr : Region.ready md l.toArray listed = [i])
    (h : ∀ K' : Act → World → Prop, Shut (∀ a w, S w → (S w → wpAnyH P md l.toArray Q S fuel (listed.setIfInBounds i true) a w) → K' a w) → if Region.wanted o (yielded l.toArray a.tmps) = true then Oper.wp P o a w K' Q else K' (a.put o.dst undef) w) : wpAnyH P md l.toArray Q S (fuel + 1) listed a w :=
  wpAnyH_ready (rs := [i]) hr (by simp) (AllReadyH.cons (by have := congrArg (fun x => x[0]?) hi; simpa using this) h AllReadyH.nil)
end
theorem reg_eq {P : Program} {f : FuncId} {args : Array Value} {w : World} {d : Nat} {os : Array Obj} {v : Value}
    (h : Calls P f args (grow (redrawn w d) os) fun e w' => e = .returned v ∧ grow (redrawn w d) os = w') : Calls P f args (grow (redrawn w d) os) fun e w'' => e = .returned v ∧ ∃ p : Regrown, w'' = grow (redrawn w p.d) p.os :=
  h.mono fun _ _ ⟨he, hw⟩ => ⟨he, ⟨⟨d, os⟩, hw.symm⟩⟩
def ASt (w wr : World) (b c n : Nat) : Prop :=
  (n = 0 ∧ Tr w wr b 0 0 0 0 0 ∧ LineAt wr c 0 9221120237041090561 9221120237041090561 9221120237041090561 9221120237041090561) ∨
  (1 ≤ n ∧ ∃ m s l h, m < 9218868437227405312 ∧ s < 9218868437227405312 ∧ l < 9218868437227405312 ∧ h < 9218868437227405312 ∧ Tr w wr b n m s l h ∧ LineAt wr c n m s l h)
def AMid (w wr : World) (b c n g : Nat) : Prop :=
  (n = 0 ∧ Tr w wr b 1 g 0 g g ∧ LineAt wr c 0 9221120237041090561 9221120237041090561 9221120237041090561 9221120237041090561) ∨
  (1 ≤ n ∧ ∃ m s l h d p m' d2 p2 s', m < 9218868437227405312 ∧ s < 9218868437227405312 ∧ l < 9218868437227405312 ∧ h < 9218868437227405312 ∧ FK.Step m g 4620693217682128896 d p m' ∧ FK.Step s (FK.rg d) 4616189618054758400 d2 p2 s' ∧ Tr w wr b (n + 1) m' s' (min l g) (max h g) ∧ LineAt wr c n m s l h)
theorem a_add1 {f g : Nat} (G : Good f g) {w wr : World} {b c n : Nat} (hbc : b < c) (hn : n < 300) (h : ASt w wr b c n) :
    Calls Try.prog 11 #[.pointer (some ⟨b, 0, none⟩), .float .f64 f] wr fun e w' => e = .returned (.bool true) ∧ AMid w w' b c n g ∧ w'.heap.size = wr.heap.size := by
  have hg := G.fin
  rcases h with ⟨rfl, T, L⟩ | ⟨h1, m, s, l, h, hm, hs, hl, hh, T, L⟩
  · refine (add_good_first G b _ _ _ _ _ T.line).mono ?_
    rintro e w' ⟨rfl, hL, hO⟩
    exact ⟨rfl, Or.inl ⟨rfl, T.only hL hO, L.only hO (by omega)⟩, hO.size⟩
  · obtain ⟨d, p, m', d2, p2, s', s1, s2⟩ := good_steps hm hs hg
    refine (add_good_more G b n m s l h d p m' d2 p2 s' s1 s2 hl hh (by omega) (by omega) _ T.line).mono ?_
    rintro e w' ⟨rfl, hL, hO⟩
    exact ⟨rfl, Or.inr ⟨h1, m, s, l, h, d, p, m', d2, p2, s', hm, hs, hl, hh, s1, s2, T.only hL hO, L.only hO (by omega)⟩, hO.size⟩
theorem Tr.other {w0 w w' : World} {b c : Nat} {n : Int} {m s l h : Nat} (t : Tr w0 w b n m s l h) (o : Only c w w') (hbc : b < c) : Tr w0 w' b n m s l h :=
  ⟨t.line.only o (by omega), t.bel.trans (o.below (by omega))⟩
theorem a_add2 {f g : Nat} (G : Good f g) {w wr : World} {b c n : Nat} (hbc : b < c) (hn : n < 300) (h : AMid w wr b c n g) :
    Calls Try.prog 12 #[.pointer (some ⟨c, 0, none⟩), .float .f64 f] wr fun e w' => e = .returned (.bool true) ∧ ASt w w' b c (n + 1) ∧ w'.heap.size = wr.heap.size := by
  have hg := G.fin
  rcases h with ⟨rfl, T, L⟩ | ⟨h1, m, s, l, h, d, p, m', d2, p2, s', hm, hs, hl, hh, s1, s2, T, L⟩
  · refine (radd_good_first G c _ _ _ _ _ L).mono ?_
    rintro e w' ⟨rfl, hL, hO⟩
    exact ⟨rfl, Or.inr ⟨by omega, g, 0, g, g, hg, by decide, hg, hg, T.other hO hbc, hL⟩, hO.size⟩
  · refine (radd_good_more G c n m s l h d p m' d2 p2 s' s1 s2 hm hl hh (by omega) (by omega) _ L).mono ?_
    rintro e w' ⟨rfl, hL, hO⟩
    exact ⟨rfl, Or.inr ⟨by omega, m', s', _, _, s1.fin, s2.fin, by omega, by omega, T.other hO hbc, hL⟩, hO.size⟩
theorem ASt.bel {w wr : World} {b c n : Nat} (h : ASt w wr b c n) : Below b w wr := by
  rcases h with ⟨_, T, _⟩ | ⟨_, _, _, _, _, _, _, _, _, T, _⟩ <;> exact T.bel

theorem ASt.drew {w wr : World} {b c n : Nat} (h : ASt w wr b c n) : ASt w wr.drew b c n := by
  rcases h with ⟨e, T, L⟩ | ⟨e, m, s, l, h, a, b, c, d, T, L⟩
  · exact Or.inl ⟨e, ⟨⟨T.line.c0, T.line.c1, T.line.c2, T.line.c3, T.line.c4, T.line.f0, T.line.f1, T.line.f2, T.line.f3, T.line.f4⟩, T.bel.trans ⟨rfl, rfl, rfl, Nat.le_refl _, fun _ _ => rfl⟩⟩, ⟨L.c0, L.c1, L.c2, L.c3, L.c4, L.f0, L.f1, L.f2, L.f3, L.f4⟩⟩
  · exact Or.inr ⟨e, m, s, l, h, a, b, c, d, ⟨⟨T.line.c0, T.line.c1, T.line.c2, T.line.c3, T.line.c4, T.line.f0, T.line.f1, T.line.f2, T.line.f3, T.line.f4⟩, T.bel.trans ⟨rfl, rfl, rfl, Nat.le_refl _, fun _ _ => rfl⟩⟩, ⟨L.c0, L.c1, L.c2, L.c3, L.c4, L.f0, L.f1, L.f2, L.f3, L.f4⟩⟩

/-- What the getters and the reference's own numbers are, whatever blocks come behind. -/
structure GS (W : World) (b c n m s l h : Nat) : Prop where
  g13 : ∀ d os, Calls Try.prog 13 #[.pointer (some ⟨b, 0, none⟩)] (grow (redrawn W d) os) fun e w' => e = .returned (.int .i64 n) ∧ ∃ p : Regrown, w' = grow (redrawn W p.d) p.os
  g15 : ∀ d os, Calls Try.prog 15 #[.pointer (some ⟨b, 0, none⟩)] (grow (redrawn W d) os) fun e w' => e = .returned (.float .f64 m) ∧ ∃ p : Regrown, w' = grow (redrawn W p.d) p.os
  g16 : ∀ d os, Calls Try.prog 16 #[.pointer (some ⟨b, 0, none⟩)] (grow (redrawn W d) os) fun e w' => e = .returned (.float .f64 s) ∧ ∃ p : Regrown, w' = grow (redrawn W p.d) p.os
  g17 : ∀ d os, Calls Try.prog 17 #[.pointer (some ⟨b, 0, none⟩)] (grow (redrawn W d) os) fun e w' => e = .returned (.float .f64 l) ∧ ∃ p : Regrown, w' = grow (redrawn W p.d) p.os
  g18 : ∀ d os, Calls Try.prog 18 #[.pointer (some ⟨b, 0, none⟩)] (grow (redrawn W d) os) fun e w' => e = .returned (.float .f64 h) ∧ ∃ p : Regrown, w' = grow (redrawn W p.d) p.os
  c0 : W.cell? ⟨c, 0, none⟩ = some (.int .i64 n)
  c1 : W.cell? ⟨c, 1, none⟩ = some (.float .f64 m)
  c2 : W.cell? ⟨c, 2, none⟩ = some (.float .f64 s)
  c3 : W.cell? ⟨c, 3, none⟩ = some (.float .f64 l)
  c4 : W.cell? ⟨c, 4, none⟩ = some (.float .f64 h)
theorem q_same (z : Nat) (w : World) (d : Nat) (os : Array Obj) : Calls Try.prog 14 #[.float .f64 z, .float .f64 z] (grow (redrawn w d) os) fun e w' => e = .returned (.bool true) ∧ ∃ p : Regrown, w' = grow (redrawn w p.d) p.os := reg_eq (same_any z _)
theorem line_grown {W : World} {b : Nat} {n : Int} {m s l h : Nat} (a : LineAt W b n m s l h) (d : Nat) (os : Array Obj) : LineAt (grow (redrawn W d) os) b n m s l h := a.below (below_regrown W d os) (block_of_cell a.c0)
theorem gs_of {w W : World} {b c n : Nat} (k : ASt w W b c n) : ∃ m s l h, GS W b c n m s l h := by
  rcases k with ⟨rfl, T, L⟩ | ⟨h1, m, s, l, h, hm, hs, hl, hh, T, L⟩
  · exact ⟨_, _, _, _, fun d os => reg_eq (count_any b _ _ _ _ _ _ (line_grown T.line d os)), fun d os => Calls.regrown_of (mean_0 b _ _ _ _ _ (line_grown T.line d os)), fun d os => Calls.regrown_of (spread_0 b _ _ _ _ _ (line_grown T.line d os)),
      fun d os => Calls.regrown_of (least_0 b _ _ _ _ _ (line_grown T.line d os)), fun d os => Calls.regrown_of (most_0 b _ _ _ _ _ (line_grown T.line d os)), L.c0, L.c1, L.c2, L.c3, L.c4⟩
  · have hn : ((n : Int) == 0) = false := by simp; omega
    exact ⟨_, _, _, _, fun d os => reg_eq (count_any b _ _ _ _ _ _ (line_grown T.line d os)), fun d os => Calls.regrown_of (mean_any b _ _ _ _ _ hn _ (line_grown T.line d os)), fun d os => Calls.regrown_of (spread_any b _ _ _ _ _ hn _ (line_grown T.line d os)),
      fun d os => Calls.regrown_of (least_any b _ _ _ _ _ hn _ (line_grown T.line d os)), fun d os => Calls.regrown_of (most_any b _ _ _ _ _ hn _ (line_grown T.line d os)), L.c0, L.c1, L.c2, L.c3, L.c4⟩
theorem ASt.below {w W W' : World} {b c n : Nat} (k : ASt w W b c n) (h : Below W.heap.size W W') : ASt w W' b c n := by
  rcases k with ⟨e, T, L⟩ | ⟨h1, m, s, l, x, hm, hs, hl, hh, T, L⟩
  · exact Or.inl ⟨e, T.below h, L.below h (block_of_cell L.c0)⟩
  · exact Or.inr ⟨h1, m, s, l, x, hm, hs, hl, hh, T.below h, L.below h (block_of_cell L.c0)⟩
theorem Only.cells {b : Nat} {w w' : World} (h : Only b w w') {x : Addr} {v : Value} (hb : x.block < b) (hc : w.cell? x = some v) : w'.cell? x = some v := (h.cell (by omega)).trans hc
/-- Both Adds, whatever came in. -/
theorem two_adds {f : Nat} (hf : f < 18446744073709551616) {w : World} {b c n : Nat} {x : Addr} (hbc : b < c) (hn : n < 300) (hxb : x.block < b) : ∃ (r : Bool) (M : World → Prop),
    (∀ W, ASt w W b c n → W.cell? x = some (.float .f64 f) → c < W.heap.size → Calls Try.prog 11 #[.pointer (some ⟨b, 0, none⟩), .float .f64 f] W fun e w' => e = .returned (.bool r) ∧ M w' ∧ w'.cell? x = some (.float .f64 f) ∧ c < w'.heap.size) ∧
    (∀ W, M W → W.cell? x = some (.float .f64 f) → c < W.heap.size → Calls Try.prog 12 #[.pointer (some ⟨c, 0, none⟩), .float .f64 f] W fun e w' => e = .returned (.bool r) ∧ (∃ n', n' ≤ n + 1 ∧ ASt w w' b c n') ∧ w'.cell? x = some (.float .f64 f) ∧ c < w'.heap.size) := by
  rcases classify hf with G | G
  · have hg := G.fin
    refine ⟨true, fun W => AMid w W b c n (FK.rg f), ?_, ?_⟩
    · intro W h hx hs
      rcases h with ⟨rfl, T, L⟩ | ⟨h1, m, s, l, h, hm, hs', hl, hh, T, L⟩
      · refine (add_good_first G b _ _ _ _ _ T.line).mono ?_
        rintro e w' ⟨rfl, hL, hO⟩
        exact ⟨rfl, Or.inl ⟨rfl, T.only hL hO, L.only hO (by omega)⟩, Only.cells hO hxb hx, by rw [hO.size]; exact hs⟩
      · obtain ⟨d, p, m', d2, p2, s', s1, s2⟩ := good_steps hm hs' hg
        refine (add_good_more G b n m s l h d p m' d2 p2 s' s1 s2 hl hh (by omega) (by omega) _ T.line).mono ?_
        rintro e w' ⟨rfl, hL, hO⟩
        exact ⟨rfl, Or.inr ⟨h1, m, s, l, h, d, p, m', d2, p2, s', hm, hs', hl, hh, s1, s2, T.only hL hO, L.only hO (by omega)⟩, Only.cells hO hxb hx, by rw [hO.size]; exact hs⟩
    · intro W h hx hs
      rcases h with ⟨rfl, T, L⟩ | ⟨h1, m, s, l, h, d, p, m', d2, p2, s', hm, hs', hl, hh, s1, s2, T, L⟩
      · refine (radd_good_first G c _ _ _ _ _ L).mono ?_
        rintro e w' ⟨rfl, hL, hO⟩
        exact ⟨rfl, ⟨1, by omega, Or.inr ⟨by omega, FK.rg f, 0, FK.rg f, FK.rg f, hg, by decide, hg, hg, T.other hO hbc, hL⟩⟩, Only.cells hO (by omega) hx, by rw [hO.size]; omega⟩
      · refine (radd_good_more G c n m s l h d p m' d2 p2 s' s1 s2 hm hl hh (by omega) (by omega) _ L).mono ?_
        rintro e w' ⟨rfl, hL, hO⟩
        exact ⟨rfl, ⟨n + 1, by omega, Or.inr ⟨by omega, m', s', _, _, s1.fin, s2.fin, by omega, by omega, T.other hO hbc, hL⟩⟩, Only.cells hO (by omega) hx, by rw [hO.size]; omega⟩
  · refine ⟨false, fun W => ASt w W b c n, ?_, ?_⟩
    · intro W h hx hs
      refine (G.prog b W).mono ?_
      rintro e w' ⟨rfl, rfl⟩
      exact ⟨rfl, h, hx, hs⟩
    · intro W h hx hs
      refine (G.ref c W).mono ?_
      rintro e w' ⟨rfl, rfl⟩
      exact ⟨rfl, ⟨n, by omega, h⟩, hx, hs⟩
set_option maxHeartbeats 4000000 in
theorem law_StatsAsks (v0 : Value) (a1 a2 a3 : Nat) (w : World) (w0 : IsFRow w v0) (w1 : (Lit.float .f64 a1).wf = true) (w2 : (Lit.float .f64 a2).wf = true) (w3 : (Lit.float .f64 a3).wf = true) :
    Calls Try.prog 3 #[v0, .float .f64 a1, .float .f64 a2, .float .f64 a3] w fun e w' => e = .returned (.bool true) ∧ Below w.heap.size w w' := by
  obtain ⟨a0, len, cap, rfl, hle, hel⟩ := w0
  unfold maxLen at hle
  obtain ⟨q, hq⟩ := isScore_ex a1 a2 a3 (f64_bd w1) (f64_bd w2) (f64_bd w3)
  have HQ := Lib.hid hq
  have Hel := Lib.hid hel
  clear hel hq w1 w2 w3
  by_cases hlen : 200 < len
  · go_enter Try.func3, Try.ntmps3
    go_wp2_with fail
    refine (told_law _).mono ?_
    rintro e w1 ⟨rfl, hB⟩
    go_wp2_with fail
    go_ret
    exact ⟨rfl, hB⟩
  · go_enter Try.func3, Try.ntmps3
    go_wp2_with fail
    refine (new_any _).mono ?_
    rintro e w1 ⟨rfl, hL, hB, hz⟩
    obtain ⟨b, hb⟩ : ∃ b, w.heap.size = b := ⟨_, rfl⟩
    rw [hb] at hL hB hz ⊢
    have HBB := Lib.hid hb
    have T := Lib.hid (show Tr w w1 b 0 0 0 0 0 from ⟨hL, hB⟩)
    clear hL hB hb
    go_wp2_with fail
    refine (rnew_any _).mono ?_
    rintro e w2 ⟨rfl, hL2, hB2, hz2⟩
    rw [hz] at hL2 hB2 hz2 ⊢
    have S : ASt w w2 b (b + 1) 0 := Or.inl ⟨rfl, ⟨T.out.line.below hB2 (by omega), T.out.bel.trans (hB2.mono (by omega))⟩, hL2⟩
    clear hL2 hB2 hz T
    go_wp2_with fail
    go_loopw [11] (fun i wr => ∃ j n : Nat, j ≤ len ∧ n ≤ j ∧ i = .int .i64 j ∧ ASt w wr b (b + 1) n ∧ b + 1 < wr.heap.size) (fun i _ => len - (intOf i).toNat)
    case atStart => exact ⟨0, 0, by omega, by omega, rfl, S, by omega⟩
    case round =>
      clear S hz2
      obtain ⟨j, n, hj, hnj, rfl, S, hsz⟩ := hrel
      by_cases hlt : j < len
      · obtain ⟨c, o, z, rfl, hc, hcell⟩ := Hel.out (by omega)
        obtain ⟨hcw, hzl⟩ := hcell j hlt
        have hc1 : wr.drew.cell? ⟨c, o + j, none⟩ = some (.float .f64 (z j)) := by
          show wr.cell? _ = _
          rw [← hcw]; exact World.cell?_of_block (w := w) (S.bel.block c (by have := HBB.out; omega))
        generalize z j = f at hc1 hzl
        clear hcell hcw
        obtain ⟨r, M, h1, h2⟩ := two_adds (f := f) hzl (w := w) (b := b) (c := b + 1) (n := n) (x := ⟨c, o + j, none⟩) (by omega) (by omega) (by have := HBB.out; show c < b; omega)
        have H1 := Lib.hid (h1 wr.drew S.drew hc1 hsz)
        have H2 := Lib.hid h2
        clear h1 h2 S hzl
        go_wp2_with fail
        refine wp_region_held_drew (S := fun w' => w'.cell? ⟨c, o + j, none⟩ = some (.float .f64 f)) (by kernel_rfl) hc1 (fun hS0 => ?_)
        refine take_l (i := 0) (v := ?_) (by rfl) (by kernel_rfl) (by kernel_rfl) (by kernel_rfl) (by exact fun _ _ _ h => h) (Or.inl ⟨by rfl, ?_⟩) (by assumption) ?_
        rotate_left 1
        · ((intro w hSw; (try dsimp only at hSw); go_simp); try with_reducible rfl)
        try simp only [Act.put, List.setIfInBounds_toArray, List.set_cons_zero, List.set_cons_succ]
        refine take_l (i := 1) (v := ?_) (by rfl) (by kernel_rfl) (by kernel_rfl) (by kernel_rfl) (by exact fun _ _ _ h => h) (Or.inl ⟨by rfl, ?_⟩) (by assumption) ?_
        rotate_left 1
        · ((intro w hSw; (try dsimp only at hSw); go_simp); try with_reducible rfl)
        try simp only [Act.put, List.setIfInBounds_toArray, List.set_cons_zero, List.set_cons_succ]
        refine take_l (i := 2) (v := ?_) (by rfl) (by kernel_rfl) (by kernel_rfl) (by kernel_rfl) (by exact fun _ _ _ h => h) (Or.inl ⟨by rfl, ?_⟩) (by assumption) ?_
        rotate_left 1
        · ((intro w hSw; (try dsimp only at hSw); go_simp); try with_reducible rfl)
        try simp only [Act.put, List.setIfInBounds_toArray, List.set_cons_zero, List.set_cons_succ]
        refine take_l (i := 3) (v := ?_) (by rfl) (by kernel_rfl) (by kernel_rfl) (by kernel_rfl) (by exact fun _ _ _ h => h) (Or.inl ⟨by rfl, ?_⟩) (by assumption) ?_
        rotate_left 1
        · ((intro w hSw; (try dsimp only at hSw); go_simp); try with_reducible rfl)
        try simp only [Act.put, List.setIfInBounds_toArray, List.set_cons_zero, List.set_cons_succ]
        refine take_l (i := 4) (v := ?_) (by rfl) (by kernel_rfl) (by kernel_rfl) (by kernel_rfl) (by exact fun _ _ _ h => h) (Or.inl ⟨by rfl, ?_⟩) (by assumption) ?_
        rotate_left 1
        · ((intro w hSw; (try dsimp only at hSw); go_simp); try with_reducible rfl)
        try simp only [Act.put, List.setIfInBounds_toArray, List.set_cons_zero, List.set_cons_succ]
        refine take_l (i := 6) (v := ?_) (by rfl) (by kernel_rfl) (by kernel_rfl) (by kernel_rfl) (by exact fun _ _ _ h => h) (Or.inl ⟨by rfl, ?_⟩) (by assumption) ?_
        rotate_left 1
        · ((intro w hSw; (try dsimp only at hSw); go_simp); try with_reducible rfl)
        try simp only [Act.put, List.setIfInBounds_toArray, List.set_cons_zero, List.set_cons_succ]
        refine take_l (i := 7) (v := ?_) (by rfl) (by kernel_rfl) (by kernel_rfl) (by kernel_rfl) (by exact fun _ _ _ h => h) (Or.inl ⟨by rfl, ?_⟩) (by assumption) ?_
        rotate_left 1
        · ((intro w hSw; (try dsimp only at hSw); go_simp); try with_reducible rfl)
        try simp only [Act.put, List.setIfInBounds_toArray, List.set_cons_zero, List.set_cons_succ]
        refine take_l (i := 8) (v := ?_) (by rfl) (by kernel_rfl) (by kernel_rfl) (by kernel_rfl) (by exact fun _ _ _ h => h) (Or.inl ⟨by rfl, ?_⟩) (by assumption) ?_
        rotate_left 1
        · ((intro w hSw; (try dsimp only at hSw); go_simp); try with_reducible rfl)
        try simp only [Act.put, List.setIfInBounds_toArray, List.set_cons_zero, List.set_cons_succ]
        refine take_l (i := 9) (v := ?_) (by rfl) (by kernel_rfl) (by kernel_rfl) (by kernel_rfl) (by exact fun _ _ _ h => h) (Or.inl ⟨by rfl, ?_⟩) (by assumption) ?_
        rotate_left 1
        · ((intro w hSw; (try dsimp only at hSw); go_simp); try with_reducible rfl)
        try simp only [Act.put, List.setIfInBounds_toArray, List.set_cons_zero, List.set_cons_succ]
        refine take_l (i := 10) (v := ?_) (by rfl) (by kernel_rfl) (by kernel_rfl) (by kernel_rfl) (by exact fun _ _ _ h => h) (Or.inl ⟨by rfl, ?_⟩) (by assumption) ?_
        rotate_left 1
        · ((intro w hSw; (try dsimp only at hSw); go_simp); try with_reducible rfl)
        try simp only [Act.put, List.setIfInBounds_toArray, List.set_cons_zero, List.set_cons_succ]
        refine cons_l (i := 5) (by rfl) (by kernel_rfl) (fun K hK => ?_)
        go_simp
        refine H1.out.mono ?_
        rintro e w' ⟨rfl, hM, hx, hs1⟩
        go_wp2_with fail
        refine hK.out _ _ hx (fun _ => ?_)
        clear hK K
        try simp only [Act.put, List.setIfInBounds_toArray, List.set_cons_zero, List.set_cons_succ]
        refine cons_l (i := 11) (by rfl) (by kernel_rfl) (fun K hK => ?_)
        go_simp
        refine (H2.out _ hM hx hs1).mono ?_
        rintro e w'' ⟨rfl, ⟨n', hn', S'⟩, hx', hs2⟩
        go_wp2_with fail
        refine hK.out _ _ hx' (fun _ => ?_)
        clear hK K
        try simp only [Act.put, List.setIfInBounds_toArray, List.set_cons_zero, List.set_cons_succ]
        obtain ⟨m, s, l, h, G⟩ := gs_of S'
        have k0 := cell_regrown G.c0
        have k1 := cell_regrown G.c1
        have k2 := cell_regrown G.c2
        have k3 := cell_regrown G.c3
        have k4 := cell_regrown G.c4
        have kx := cell_regrown hx'
        have HG := Lib.hid G
        have HS := Lib.hid S'
        clear G S' hx hx' hM hc1 H1 H2 hS0
        refine wpAnyH_quiet_tail (C := fun W => ∃ p : Regrown, W = grow (redrawn w'' p.d) p.os) 12 (by rfl) (by kernel_rfl) (by kernel_rfl) (by kernel_rfl) ⟨⟨w''.drawn, #[]⟩, by rw [grow_empty]; rfl⟩ (fun W hW => by obtain ⟨p, rfl⟩ := hW; exact kx _ _) ?_
        repeat (go_big_quiet_step (first | exact HG.out.g13 _ _ | exact HG.out.g15 _ _ | exact HG.out.g16 _ _ | exact HG.out.g17 _ _ | exact HG.out.g18 _ _ | exact q_same _ _ _ _))
        refine wpQuiet_nil ?_
        intro _ hw'
        obtain ⟨⟨nq, osq⟩, hw3⟩ := hw'
        have S3 := HS.out.below (below_regrown w'' nq osq)
        have hs3 : b + 1 < (grow (redrawn w'' nq) osq).heap.size := Nat.lt_of_lt_of_le hs2 (below_regrown w'' nq osq).size
        rw [← hw3] at S3 hs3
        rename_i W3 _ _
        clear hw3 k0 k1 k2 k3 k4 kx HG HS hs2
        set_option maxRecDepth 20000 in
        go_wp2_with fail
        go_roundw
        case rel => exact ⟨j + 1, n', by omega, by omega, by go_num, S3, hs3⟩
        case measure => simp [intOf]; omega
      · obtain rfl : j = len := by omega
        obtain ⟨m, s, l, h, G⟩ := gs_of S
        have k1 := cell_regrown G.c1
        have HG := Lib.hid G
        have HS := Lib.hid S
        clear G S
        go_wp2_with fail
        refine wp_region_quiet_below (by kernel_rfl) (by kernel_rfl) ?_
        repeat (go_big_quiet_step (first | exact Calls.regrown_of (told_law _) | exact HG.out.g15 _ _ | exact q_same _ _ _ _ | exact reg_eq (score_any _ _ _ _ HQ.out _) | exact reg_eq (rscore_any _ _ _ _ HQ.out _)))
        refine wpQuiet_nil ?_
        intro _ hw'
        obtain ⟨⟨nq, osq⟩, hw3⟩ := hw'
        have S3 := HS.out.below (below_regrown wr nq osq)
        rw [← hw3] at S3
        clear hw3 k1 HG HS
        set_option maxRecDepth 20000 in
        go_wp2_with fail
        go_ret
        refine ⟨rfl, ?_⟩
        rw [HBB.out]
        exact S3.bel
end Go.Proofs.Ytoefnagenooaiaa
