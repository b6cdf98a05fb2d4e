/-
  Link: the program's link and the reference's side by side; the steps that came in.
-/
import Derived.Test.YtfadaakogpbgfaaRA
import Derived.Test.YtfadaakogpbgfaaRB
namespace Go.Proofs.Ytfadaakogpbgfaa
set_option linter.unusedVariables false
open Go.ChangeShapes Go.WideShapes Go.ChangeAt Go.RowKit Go.Sort

/-- Steps that came in. -/
def IsOps (w : World) (v : Value) : Prop := ∃ a len cap, v = .slice a len cap ∧ len ≤ cap ∧ cap ≤ maxLen ∧ (0 < len → ∃ b o, a = some ⟨b, o, none⟩ ∧ b < w.heap.size ∧
  ∀ i, i < len → ∃ k f x y z : Int, w.cell? ⟨b, o + i * 5, none⟩ = some (.int .i64 k) ∧ w.cell? ⟨b, o + i * 5 + 1, none⟩ = some (.int .i64 f) ∧ w.cell? ⟨b, o + i * 5 + 2, none⟩ = some (.int .u16 x) ∧ w.cell? ⟨b, o + i * 5 + 3, none⟩ = some (.int .u16 y) ∧ w.cell? ⟨b, o + i * 5 + 4, none⟩ = some (.int .u32 z) ∧
    (-9223372036854775808 ≤ k ∧ k ≤ 9223372036854775807) ∧ (-9223372036854775808 ≤ f ∧ f ≤ 9223372036854775807) ∧ (0 ≤ x ∧ x ≤ 65535) ∧ (0 ≤ y ∧ y ≤ 65535) ∧ (0 ≤ z ∧ z ≤ 4294967295))
theorem open_ops {H : Type} {enc : TypeId × Value → H} {W : World} {b0 : Nat} {v : Value} {d : DataW H} {p : List MemPlace} (hv : Value.okWide Try.prog W .any b0 22 v) (h : DataW.Trod enc Try.prog W 0 (fun _ => true) true 22 v d p) : IsOps W v := by
  obtain ⟨a, len, cap, rfl, h1, h2, h3⟩ := open_rows [.i64, .i64, .u16, .u16, .u32] Try.underlying22 (by kernel_rfl) (by decide) (by kernel_rfl) hv h
  refine ⟨a, len, cap, rfl, h1, h2, fun h0 => ?_⟩
  obtain ⟨b, o, z, rfl, hb, hz⟩ := h3 h0
  refine ⟨b, o, rfl, hb, fun i hi => ⟨z i 0, z i 1, z i 2, z i 3, z i 4, ?_⟩⟩
  obtain ⟨c0, l0⟩ := hz i hi 0 .i64 rfl
  obtain ⟨c1, l1⟩ := hz i hi 1 .i64 rfl
  obtain ⟨c2, l2⟩ := hz i hi 2 .u16 rfl
  obtain ⟨c3, l3⟩ := hz i hi 3 .u16 rfl
  obtain ⟨c4, l4⟩ := hz i hi 4 .u32 rfl
  simp only [List.length_cons, List.length_nil, Nat.zero_add, Nat.reduceAdd, Nat.add_zero] at c0 c1 c2 c3 c4
  refine ⟨c0, by rw [← c1, Nat.add_assoc], by rw [← c2, Nat.add_assoc], by rw [← c3, Nat.add_assoc], by rw [← c4, Nat.add_assoc], bd_i64 l0, bd_i64 l1, bd_u16 l2, bd_u16 l3, bd_u32 l4⟩
structure OpAt (w : World) (t : Nat) (k f x y z : Int) : Prop where
  c0 : w.cell? ⟨t, 0, none⟩ = some (.int .i64 k)
  c1 : w.cell? ⟨t, 1, none⟩ = some (.int .i64 f)
  c2 : w.cell? ⟨t, 2, none⟩ = some (.int .u16 x)
  c3 : w.cell? ⟨t, 3, none⟩ = some (.int .u16 y)
  c4 : w.cell? ⟨t, 4, none⟩ = some (.int .u32 z)
theorem OpAt.block {w w' : World} {t : Nat} {k f x y z : Int} (h : OpAt w t k f x y z) (e : w'.heap[t]? = w.heap[t]?) : OpAt w' t k f x y z :=
  ⟨(World.cell?_of_block e).trans h.c0, (World.cell?_of_block e).trans h.c1, (World.cell?_of_block e).trans h.c2, (World.cell?_of_block e).trans h.c3, (World.cell?_of_block e).trans h.c4⟩
theorem OpAt.lt {w : World} {t : Nat} {k f x y z : Int} (h : OpAt w t k f x y z) : t < w.heap.size := block_of_cell h.c0
theorem opAt_new (w : World) (k f x y z : Int) : OpAt (w.alloc (Obj.cells #[.int .i64 k, .int .i64 f, .int .u16 x, .int .u16 y, .int .u32 z] 31)) w.heap.size k f x y z :=
  ⟨by go_simp, by go_simp, by go_simp, by go_simp, by go_simp⟩

structure Pv (w wr : World) (B C : Nat) (PA PM : Nat → Prop) (nx t l : Int) (m : Nat) (is : Bool) (zs : List Int) (sr t2 : Int) (is2 : Bool) (l2 : Int) (c : Nat → Bool) (zs2 : List Int) : Prop where
  a : Lk wr PA B nx t l m is zs
  r : RLk wr PM C sr t2 is2 l2 c zs2
  ar : ∀ k, PA k → ¬ PM k
  lo : ∀ k, PA k ∨ PM k → B ≤ k
  bel : Below B w wr
section
variable {w wr : World} {B C : Nat} {PA PM : Nat → Prop} {nx t l : Int} {m : Nat} {is : Bool} {zs : List Int} {sr t2 : Int} {is2 : Bool} {l2 : Int} {c : Nat → Bool} {zs2 : List Int}
theorem Pv.turnA {PA' : Nat → Prop} {w2 : World} {nx' t' l' : Int} {m' : Nat} {is' : Bool} {zs' : List Int} (o : Pv w wr B C PA PM nx t l m is zs sr t2 is2 l2 c zs2) (f : Frame PA wr w2) (hp : ∀ k, PA' k → PA k ∨ wr.heap.size ≤ k) (h : Lk w2 PA' B nx' t' l' m' is' zs') :
    Pv w w2 B C PA' PM nx' t' l' m' is' zs' sr t2 is2 l2 c zs2 := by
  have hs := o.a.lt _ o.a.own0
  refine ⟨h, o.r.frame f (fun k hk ha => o.ar k ha hk), ?_, ?_, o.bel.trans (f.below B (by omega) (fun k hk => o.lo k (Or.inl hk)))⟩
  · intro k hk hr
    rcases hp k hk with h1 | h1
    · exact o.ar k h1 hr
    · have := o.r.lt k hr; omega
  · intro k hk
    rcases hk with hk | hk
    · rcases hp k hk with h1 | h1
      · exact o.lo k (Or.inl h1)
      · omega
    · exact o.lo k (Or.inr hk)
theorem Pv.turnR {PM' : Nat → Prop} {w2 : World} {sr' t' l' : Int} {is' : Bool} {c' : Nat → Bool} {zs' : List Int} (o : Pv w wr B C PA PM nx t l m is zs sr t2 is2 l2 c zs2) (f : Frame PM wr w2) (hp : ∀ k, PM' k → PM k ∨ wr.heap.size ≤ k) (h : RLk w2 PM' C sr' t' is' l' c' zs') :
    Pv w w2 B C PA PM' nx t l m is zs sr' t' is' l' c' zs' := by
  have hs := o.a.lt _ o.a.own0
  refine ⟨o.a.frame f o.ar, h, ?_, ?_, o.bel.trans (f.below B (by omega) (fun k hk => o.lo k (Or.inr hk)))⟩
  · intro k ha hk
    rcases hp k hk with h1 | h1
    · exact o.ar k ha h1
    · have := o.a.lt k ha; omega
  · intro k hk
    rcases hk with hk | hk
    · exact o.lo k (Or.inl hk)
    · rcases hp k hk with h1 | h1
      · exact o.lo k (Or.inr h1)
      · omega
theorem Pv.below {w2 : World} (o : Pv w wr B C PA PM nx t l m is zs sr t2 is2 l2 c zs2) (k : Below wr.heap.size wr w2) : Pv w w2 B C PA PM nx t l m is zs sr t2 is2 l2 c zs2 := by
  have f := Frame.of_below k (fun _ => False)
  have hs := o.a.lt _ o.a.own0
  exact ⟨o.a.frame f (fun _ _ h => h), o.r.frame f (fun _ _ h => h), o.ar, o.lo, o.bel.trans (k.mono (by omega))⟩
theorem Pv.drew (o : Pv w wr B C PA PM nx t l m is zs sr t2 is2 l2 c zs2) : Pv w wr.drew B C PA PM nx t l m is zs sr t2 is2 l2 c zs2 := o.below ((Below.refl _ _).drew)
theorem pv_stampA (o : Pv w wr B C PA PM nx t l m is zs sr t2 is2 l2 c zs2) (hz : zs.length ≤ 64) :
    Calls Try.prog 10 #[.pointer (some ⟨B + 1, 0, none⟩)] wr fun e w' => e = .returned (.tuple #[.int .u16 nx, .int .u16 l, .int .u32 m]) ∧ ∃ PA', Pv w w' B C PA' PM (IntKind.u16.wrap (nx + 1)) t l m is (cut64 (zs ++ [nx])) sr t2 is2 l2 c zs2 := by
  refine (lk_stamp o.a hz).mono ?_
  rintro e w' ⟨rfl, f, P', h1, h2⟩
  exact ⟨rfl, P', o.turnA f h1 h2⟩
theorem pv_hearA (o : Pv w wr B C PA PM nx t l m is zs sr t2 is2 l2 c zs2) (hz : zs.length ≤ 64) (hm : m < 2 ^ 32) (now s a k : Int) :
    Calls Try.prog 12 #[.pointer (some ⟨B + 1, 0, none⟩), .int .i64 now, .int .u16 s, .int .u16 a, .int .u32 k] wr fun e w' => e = .returned (.bool (noteB is l s m)) ∧ (∃ PA', Pv w w' B C PA' PM nx (max t now) (noteL is l s) (noteM is l s m) true (zs.filter fun x => !toldF x a k) sr t2 is2 l2 c zs2) ∧ Frame PA wr w' := by
  refine (lk_hear o.a hz hm now s a k).mono ?_
  rintro e w' ⟨rfl, f, P', h1, h2⟩
  exact ⟨rfl, ⟨P', o.turnA f h1 h2⟩, f⟩
theorem pv_stampR (o : Pv w wr B C PA PM nx t l m is zs sr t2 is2 l2 c zs2) (hz : zs2.length ≤ 64) (q : Nat) (hq : q < 2 ^ 32) (hc : ∀ j, j < 32 → q.testBit j = c (j + 1)) :
    Calls Try.prog 11 #[.pointer (some ⟨C, 0, none⟩)] wr fun e w' => e = .returned (.tuple #[.int .u16 (IntKind.u16.wrap (sr + 1)), .int .u16 l2, .int .u32 q]) ∧ ∃ PM', Pv w w' B C PA PM' nx t l m is zs (IntKind.u16.wrap (sr + 1)) t2 is2 l2 c (cut64 (zs2 ++ [IntKind.u16.wrap (sr + 1)])) := by
  refine (rstamp_any o.r hz).mono ?_
  rintro e w' ⟨m', rfl, hm', hb', f, P', h1, h2⟩
  have e : m' = q := by
    apply Nat.eq_of_testBit_eq
    intro j
    rw [hb' j]
    by_cases hj : j < 32
    · rw [hc j hj]; simp [hj]
    · rw [high_bits hq j (by omega)]; simp [hj]
  subst e
  exact ⟨rfl, P', o.turnR f h1 h2⟩
theorem pv_hearR (o : Pv w wr B C PA PM nx t l m is zs sr t2 is2 l2 c zs2) (hz : zs2.length ≤ 64) (hzb : ∀ x ∈ zs2, 0 ≤ x ∧ x ≤ 65535) (q : Nat) (hS : SameHeard is2 l2 q c) (now s a k : Int) (s0 : 0 ≤ s) (s1 : s ≤ 65535) (a0 : 0 ≤ a) (a1 : a ≤ 65535) :
    Calls Try.prog 13 #[.pointer (some ⟨C, 0, none⟩), .int .i64 now, .int .u16 s, .int .u16 a, .int .u32 k] wr fun e w' => e = .returned (.bool (noteB is2 l2 s q)) ∧ (∃ PM', Pv w w' B C PA PM' nx t l m is zs sr (max t2 now) true (noteL is2 l2 s) (refC is2 l2 s c) (zs2.filter fun x => !toldF x a k)) ∧ Frame PM wr w' := by
  refine (rhear_any o.r hz hzb q hS now s a k s0 s1 a0 a1).mono ?_
  rintro e w' ⟨rfl, f, P', h1, h2⟩
  exact ⟨rfl, ⟨P', o.turnR f h1 h2⟩, f⟩
theorem pv_quietA (o : Pv w wr B C PA PM nx t l m is zs sr t2 is2 l2 c zs2) (now : Int) :
    Calls Try.prog 14 #[.pointer (some ⟨B + 1, 0, none⟩), .int .i64 now] wr fun e w' => e = .returned (.int .i64 (quietF t now)) ∧ wr = w' := by
  obtain ⟨v, hL, hO⟩ := o.a.ex
  unfold quietF
  by_cases hn : now < t
  · rw [if_pos hn]; exact quiet_lt _ nx v B t now (decide_eq_true hn) wr hL
  · rw [if_neg hn]; exact quiet_ge _ nx v B t now (decide_eq_false hn) wr hL
theorem pv_quietR (o : Pv w wr B C PA PM nx t l m is zs sr t2 is2 l2 c zs2) (now : Int) :
    Calls Try.prog 15 #[.pointer (some ⟨C, 0, none⟩), .int .i64 now] wr fun e w' => e = .returned (.int .i64 (quietF t2 now)) ∧ wr = w' := by
  obtain ⟨v, hL, hO⟩ := o.r.ex
  exact rquiet_any C sr v t2 now wr hL

/-- The program's and the reference's, telling the same. -/
structure Pw (w wr : World) (B C : Nat) (nx t l : Int) (m : Nat) (is : Bool) (zs : List Int) (sr : Int) (c : Nat → Bool) : Prop where
  pv : ∃ PA PM : Nat → Prop, Pv w wr B C PA PM nx t l m is zs sr t is l c zs
  hs : SameHeard is l m c
  nx : nx = IntKind.u16.wrap (sr + 1)
  zb : ∀ x ∈ zs, 0 ≤ x ∧ x ≤ 65535
  zl : zs.length ≤ 64
end
end Go.Proofs.Ytfadaakogpbgfaa
