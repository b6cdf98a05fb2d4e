/-
  Entry: Get's state behind stores; what the bytes say, in plain words.
-/
import Derived.Test.YtembppihfcclcaaJ
namespace Go.Proofs.Ytembppihfcclcaa
set_option linter.unusedVariables false
open Go.ChangeShapes Go.WideShapes Go.ChangeAt Go.RowKit

theorem EntAt.set {w : World} {b : Nat} {fr fr' : Int} {sv sv' v : Value} {I I' : Nat → Int} (a : EntAt w b 0 fr sv I) (k : Nat) (h : ∀ j, j < 26 → entF fr' sv' I' j = if j = k then v else entF fr sv I j) : EntAt (w.setCell ⟨b, k, none⟩ v) b 0 fr' sv' I' := by
  constructor
  intro j hj
  rw [h j hj, Nat.zero_add]
  have hc := a.cell j hj
  rw [Nat.zero_add] at hc
  by_cases e : j = k
  · subst e
    rw [if_pos rfl]
    exact World.cell?_setCell_same _ _ _ hc
  · rw [if_neg e, World.cell?_setCell_other _ _ _ _ (by simp only [ne_eq, Addr.mk.injEq, true_and, and_true]; omega)]
    exact hc
theorem there_set {w : World} {b k : Nat} {v : Value} (h : w.there b 0 26) : (w.setCell ⟨b, k, none⟩ v).there b 0 26 := fun j hj => by
  obtain ⟨h1, h2⟩ := h j hj
  refine ⟨?_, by rw [World.frozen?_setCell]; exact h2⟩
  by_cases e : j = k
  · subst e
    obtain ⟨u, hu⟩ := Option.isSome_iff_exists.1 h1
    rw [Nat.zero_add] at hu ⊢
    rw [World.cell?_setCell_same _ _ _ hu]; rfl
  · rw [World.cell?_setCell_other _ _ _ _ (by simp only [ne_eq, Addr.mk.injEq, true_and, and_true]; omega)]
    exact h1
theorem GS.set {w wr : World} {bs : List Int} {b o C i m m' : Nat} {fr fr' : Int} {sv sv' v : Value} {E : Nat → Nat → Int} {I I' : Nat → Int} (h : GS w bs b o C i fr sv m E I wr) (k : Nat) (he : ∀ j, j < 26 → entF fr' sv' I' j = if j = k then v else entF fr sv I j) (ho : OwnE wr (w.heap.size + 3) sv' m' E) : GS w bs b o C i fr' sv' m' E I' (wr.setCell ⟨w.heap.size, k, none⟩ v) := by
  have hO := (Only.refl w.heap.size wr).setCell (p := ⟨w.heap.size, k, none⟩) rfl v
  exact ⟨h.rd.block (hO.block _ (by omega)), h.ent.set k he, there_set h.th, (World.cell?_of_block (hO.block (w.heap.size + 1) (by omega))).trans h.c3, (World.frozen?_of_block (hO.block (w.heap.size + 1) (by omega))).trans h.f3, ho.other hO (by omega), h.bel.trans (hO.below (Nat.le_refl _))⟩
theorem GS.setFr {w wr : World} {bs : List Int} {b o C i m : Nat} {fr x : Int} {sv : Value} {E : Nat → Nat → Int} {I : Nat → Int} (h : GS w bs b o C i fr sv m E I wr) : GS w bs b o C i x sv m E I (wr.setCell ⟨w.heap.size, 0, none⟩ (.int .i64 x)) :=
  h.set 0 (fun j _ => by unfold entF; split <;> rfl) h.own
theorem GS.setEv {w wr : World} {bs : List Int} {b o C i m m' : Nat} {fr : Int} {sv sv' : Value} {E : Nat → Nat → Int} {I : Nat → Int} (h : GS w bs b o C i fr sv m E I wr) (ho : OwnE wr (w.heap.size + 3) sv' m' E) : GS w bs b o C i fr sv' m' E I (wr.setCell ⟨w.heap.size, 1, none⟩ sv') :=
  h.set 1 (fun j _ => by
    unfold entF
    by_cases h0 : j = 0
    · rw [if_pos h0, if_pos h0, if_neg (by omega)]
    · rw [if_neg h0, if_neg h0]; split <;> rfl) ho
def updI (f : Nat → Int) (k : Nat) (x : Int) : Nat → Int := fun n => if n = k then x else f n
theorem GS.setIn {w wr : World} {bs : List Int} {b o C i m : Nat} {fr : Int} {sv : Value} {E : Nat → Nat → Int} {I : Nat → Int} (h : GS w bs b o C i fr sv m E I wr) (k : Nat) (hk : k < 24) (x : Int) : GS w bs b o C i fr sv m E (updI I k x) (wr.setCell ⟨w.heap.size, 2 + k, none⟩ (.int (if k % 3 = 2 then .u8 else .i8) x)) :=
  h.set (2 + k) (fun j _ => by
    unfold entF inpV updI
    by_cases h0 : j = 0
    · rw [if_pos h0, if_neg (by omega), if_pos h0]
    · by_cases h1 : j = 1
      · rw [if_neg h0, if_pos h1, if_neg (by omega), if_neg h0, if_pos h1]
      · by_cases h2 : j = 2 + k
        · rw [if_neg h0, if_neg h1, if_pos h2]
          subst h2
          rw [show 2 + k - 2 = k by omega, if_pos rfl]
        · rw [if_neg h0, if_neg h1, if_neg h2, if_neg h0, if_neg h1, if_neg (show ¬ (j - 2 = k) by omega)]) h.own
theorem or_add (k : Nat) (hk : k ≤ 32) (a b : Int) (ha : 0 ≤ a) (ha' : a < 2 ^ k) (hb : 0 ≤ b) (hb' : b < 256) : bits .or .i64 a (b * 2 ^ k) = a + b * 2 ^ k := by
  obtain ⟨x, rfl⟩ : ∃ x : Nat, a = x := ⟨a.toNat, by omega⟩
  obtain ⟨y, rfl⟩ : ∃ y : Nat, b = y := ⟨b.toNat, by omega⟩
  have hx : x < 2 ^ k := by exact_mod_cast ha'
  have hp : 2 ^ k ≤ 2 ^ 32 := Nat.pow_le_pow_right (by omega) hk
  have hy : y * 2 ^ k < 2 ^ 62 := by
    have : y * 2 ^ k ≤ 255 * 2 ^ 32 := Nat.mul_le_mul (by omega) hp
    omega
  have hx2 : x < 2 ^ 62 := by omega
  have h := (bits_nat .i64 62 (by decide) (fun n h0 h1 => IntWalk.i64_in n (by omega)) x (y * 2 ^ k) hx2 hy).2
  have e : ((y * 2 ^ k : Nat) : Int) = (y : Int) * 2 ^ k := by push_cast; rfl
  rw [e] at h
  have e2 : x ||| y * 2 ^ k = x + y * 2 ^ k := by
    rw [Nat.mul_comm y, Nat.or_comm, ← Nat.two_pow_add_eq_or_of_lt hx, Nat.add_comm]
  rw [h, e2]
  push_cast; rfl
theorem le2 (x y : Int) (hx : 0 ≤ x ∧ x < 256) (hy : 0 ≤ y ∧ y < 256) : bits .or .i64 x (wrap64 (y * 256)) = x + y * 256 := by
  have h := or_add 8 (by omega) x y hx.1 hx.2 hy.1 hy.2
  have e : wrap64 (y * 256) = y * 2 ^ 8 := by unfold wrap64; omega
  rw [e, h]; rfl
theorem le4 (x y z u : Int) (hx : 0 ≤ x ∧ x < 256) (hy : 0 ≤ y ∧ y < 256) (hz : 0 ≤ z ∧ z < 256) (hu : 0 ≤ u ∧ u < 256) : bits .or .i64 (bits .or .i64 (bits .or .i64 x (wrap64 (y * 256))) (wrap64 (z * 65536))) (wrap64 (u * 16777216)) = x + y * 256 + z * 65536 + u * 16777216 := by
  rw [le2 x y hx hy]
  have h1 := or_add 16 (by omega) (x + y * 256) z (by omega) (by omega) hz.1 hz.2
  have e1 : wrap64 (z * 65536) = z * 2 ^ 16 := by unfold wrap64; omega
  have h2 := or_add 24 (by omega) (x + y * 256 + z * 65536) u (by omega) (by omega) hu.1 hu.2
  have e2 : wrap64 (u * 16777216) = u * 2 ^ 24 := by unfold wrap64; omega
  rw [e1, h1, e2]
  exact h2
def gFr (bs : List Int) : Int := zz bs 0 + zz bs 1 * 256 + zz bs 2 * 65536 + zz bs 3 * 16777216
def gN (bs : List Int) : Nat := (zz bs 4).toNat
def gE (bs : List Int) (i j : Nat) : Int := if j = 0 then zz bs (5 + 5 * i) else if j = 1 then zz bs (5 + 5 * i + 1) else if j = 2 then zz bs (5 + 5 * i + 2) + zz bs (5 + 5 * i + 3) * 256 else zz bs (5 + 5 * i + 4)
def gM (bs : List Int) : Nat := (zz bs (5 + 5 * gN bs)).toNat
def gcnt (M : Nat) : Nat → Nat
  | 0 => 0
  | s + 1 => if M.testBit s then gcnt M s + 1 else gcnt M s
/-- A byte as a number with a sign. -/
def sgn (x : Int) : Int := if x < 128 then x else x - 256
def gI (bs : List Int) (k : Nat) : Int :=
  if (gM bs).testBit (k / 3) then
    (if k % 3 = 2 then zz bs (6 + 5 * gN bs + 3 * gcnt (gM bs) (k / 3) + k % 3) else sgn (zz bs (6 + 5 * gN bs + 3 * gcnt (gM bs) (k / 3) + k % 3)))
  else 0
/-- The inputs of the first s slots. -/
def gIs (bs : List Int) (s : Nat) : Nat → Int := fun k => if k < 3 * s then gI bs k else 0
def gTot (bs : List Int) : Nat := 6 + 5 * gN bs + 3 * gcnt (gM bs) 8
theorem gcnt_mono (M : Nat) (s t : Nat) (h : s ≤ t) : gcnt M s ≤ gcnt M t := by
  induction t with
  | zero => have : s = 0 := by omega
            subst this; exact Nat.le_refl _
  | succ t ih =>
    by_cases e : s = t + 1
    · subst e; exact Nat.le_refl _
    · have := ih (by omega)
      show gcnt M s ≤ if M.testBit t then gcnt M t + 1 else gcnt M t
      split <;> omega
def OkG (bs : List Int) : Prop := gTot bs ≤ bs.length ∧ mayE (gFr bs) (gN bs) (gE bs) (gI bs) = true ∧ putB (gFr bs) (gN bs) (gE bs) (gI bs) = bs
def GetPost (B : Nat) (bs : List Int) (e : Ending) (w : World) : Prop :=
  (OkG bs ∧ ∃ sv, e = .returned (.tuple #[.agg (entL (gFr bs) sv (gI bs)).toArray, .int .i64 0]) ∧ OwnE w B sv (gN bs) (gE bs)) ∨
  (¬ OkG bs ∧ e = .returned (.tuple #[.agg (entL 0 (.slice none 0 0) (fun _ => 0)).toArray, .int .i64 2]))
theorem OwnE.mono {w : World} {B B' : Nat} {sv : Value} {n : Nat} {E : Nat → Nat → Int} (h : OwnE w B sv n E) (hb : B' ≤ B) : OwnE w B' sv n E := by
  refine ⟨h.1, ?_⟩
  rcases h.2 with hn | ⟨g, cap, cur, h1, h2, h3⟩
  · exact Or.inl hn
  · exact Or.inr ⟨g, cap, cur, h1, by omega, h3⟩
theorem get_short {w wr : World} {bs : List Int} {b o C i m : Nat} {fr : Int} {sv : Value} {E : Nat → Nat → Int} {I : Nat → Int} (h : GS w bs b o C i fr sv m E I wr) (hlt : bs.length < gTot bs) (tmps : Array Value) (h2 : tmps.getD 2 undef = .pointer (some ⟨w.heap.size, 0, none⟩)) (h3 : tmps.getD 3 undef = .pointer (some ⟨w.heap.size + 1, 0, none⟩)) :
    bodyPostD Try.prog Try.f67 (fun e w' => GetPost w.heap.size bs e w' ∧ Below w.heap.size w w') (.panic wrongP) { tmps := tmps, defers := [{ target := .fn (.func 68) #[.pointer (some ⟨w.heap.size, 0, none⟩), .pointer (some ⟨w.heap.size + 1, 0, none⟩)], args := #[] }] } wr :=
  get_bad h tmps h2 h3 _ (fun w' hb => ⟨Or.inr ⟨fun h => by have := h.1; omega, rfl⟩, hb⟩)
theorem get_byteH {w wr : World} {bs : List Int} {b o C i m : Nat} {fr : Int} {sv : Value} {E : Nat → Nat → Int} {I : Nat → Int} (h : Hid (GS w bs b o C i fr sv m E I wr)) {j : Nat} (hj : Hid (i + 1 = j)) {x : Int} (hx : Hid (zz bs i = x)) (hby : ByteL bs) (hbs : 0 < bs.length → b < w.heap.size ∧ BytesAt w b o bs) :
    Calls Try.prog 69 #[.pointer (some ⟨w.heap.size + 1 + 1, 0, none⟩)] wr fun e w' => (e = .returned (.int .i64 x) ∧ Hid (GS w bs b o C j fr sv m E I w')) ∨ (bs.length ≤ i ∧ e = .panicked wrongP ∧ Hid (GS w bs b o C i fr sv m E I w')) := by
  rw [← hx.out]
  refine (get_byte j hj.out hby hbs h.out).mono ?_
  rintro e w' (⟨-, h1, h2⟩ | h1)
  · exact Or.inl ⟨h1, h2⟩
  · exact Or.inr h1
/-- append of one event to the events read so far, in a region that draws its order. -/
theorem step_app_ev {ops : Array Oper} {op : Oper} {a : Act} {w w1 : World} {K : Act → World → Prop} {Q : Exit → Act → World → Prop} {E' : Prop} (hg : op.guard = none)
    (s x : Operand) (ho : op.op = Op.call { callee := Callee.builtin Builtin.append, args := #[s, x], argTypes := #[31, 31] })
    (B : Nat) (sv : Value) (m : Nat) (E : Nat → Nat → Int) (hown : OwnE w1 B sv m E) (hm : m ≤ 1000) (hs : a.eval s = sv) (hB : B ≤ w1.heap.size)
    (hw : w = w1.alloc (Obj.cells #[.int .i64 (E m 0), .int .i64 (E m 1), .int .i64 (E m 2), .int .i64 (E m 3)] 43)) (hx : a.eval x = .slice (some ⟨w1.heap.size, 0, none⟩) 1 1)
    (h : ∀ v' w', OwnE w' B v' (m + 1) E → Below B w1 w' → (∃ g cap, v' = .slice (some ⟨g, 0, none⟩) (m + 1) cap) → K (a.put op.dst v') w') :
    if Region.wanted op (yielded ops a.tmps) = true then Oper.wp Try.prog op a w K Q else E' := by
  have hwn : Region.wanted op (yielded ops a.tmps) = true := by simp [Region.wanted, hg]
  rw [if_pos hwn]
  subst hw
  obtain ⟨i0, hi, hz0, hz1, hz2⟩ := info_parts (P := Try.prog) (e := 43) (z := .agg #[.int .i64 0, .int .i64 0, .int .i64 0, .int .i64 0]) (size := 4) (bytes := 32) (by kernel_rfl)
  refine wp_append_own _ s x 31 ho B 43 i0 (.agg #[.int .i64 0, .int .i64 0, .int .i64 0, .int .i64 0]) 4 32 Try.underlying31 hi hz0 hz1 hz2 rfl (by decide) sv m (evL E m) hs (World.ownsRow.alloc hown _) ⟨w1.heap.size, 0, none⟩ 1 1 [.int .i64 (E m 0), .int .i64 (E m 1), .int .i64 (E m 2), .int .i64 (E m 3)] hx rfl ?_ ?_ (by unfold maxLen; omega) (by omega) (by simp; omega) ?_
  · intro j u hj
    rw [Go.WideShapes.add_plain, World.cell?_alloc_new, Nat.zero_add, ← hj]
    exact List.getElem?_toArray
  · intro u hu
    simp only [List.mem_cons, List.not_mem_nil, or_false] at hu
    rcases hu with rfl | rfl | rfl | rfl <;> rfl
  · intro v' w' h1 h2 h3
    have hO : OwnE w' B v' (m + 1) E := h1
    refine h v' w' hO ?_ ?_
    · have hb := (Below.refl B w1).alloc hB (Obj.cells #[.int .i64 (E m 0), .int .i64 (E m 1), .int .i64 (E m 2), .int .i64 (E m 3)] 43)
      refine hb.grown h2 (by simp; omega) ?_
      intro k hk
      exact (World.ownsRow.lt hown k (by simpa using hk)).1
    · rcases h1.2 with ⟨-, h0⟩ | ⟨g, cap, cur, hv, -⟩
      · omega
      · exact ⟨g, cap, hv⟩
theorem step_app_evG {ops : Array Oper} {op : Oper} {a : Act} {w w1 w0 : World} {K : Act → World → Prop} {Q : Exit → Act → World → Prop} {E' : Prop} (hg : op.guard = none)
    (s x : Operand) (ho : op.op = Op.call { callee := Callee.builtin Builtin.append, args := #[s, x], argTypes := #[31, 31] })
    {bs : List Int} {b o C i m : Nat} {fr : Int} {sv : Value} {E : Nat → Nat → Int} {I : Nat → Int}
    (hw : w = w1.alloc (Obj.cells #[.int .i64 (E m 0), .int .i64 (E m 1), .int .i64 (E m 2), .int .i64 (E m 3)] 43)) (hG : Hid (GS w0 bs b o C i fr sv m E I w1)) (hm : m ≤ 1000) (hs : a.eval s = sv) (hx : a.eval x = .slice (some ⟨w1.heap.size, 0, none⟩) 1 1)
    (h : ∀ g cap w', Hid (GS w0 bs b o C i fr (.slice (some ⟨g, 0, none⟩) (m + 1) cap) (m + 1) E I (w'.setCell ⟨w0.heap.size, 1, none⟩ (.slice (some ⟨g, 0, none⟩) (m + 1) cap))) → w'.cell? ⟨w0.heap.size, 1, none⟩ = some sv → w'.frozen? ⟨w0.heap.size, 1, none⟩ = false → K (a.put op.dst (.slice (some ⟨g, 0, none⟩) (m + 1) cap)) w') :
    if Region.wanted op (yielded ops a.tmps) = true then Oper.wp Try.prog op a w K Q else E' := by
  have hlt := hG.out.rd.lt
  refine step_app_ev hg s x ho (w0.heap.size + 3) sv m E hG.out.own hm hs (by omega) hw hx ?_
  rintro v' w' hO hb ⟨g, cap, rfl⟩
  have hg' := hG.out
  have hG2 : GS w0 bs b o C i fr (.slice (some ⟨g, 0, none⟩) (m + 1) cap) (m + 1) E I (w'.setCell ⟨w0.heap.size, 1, none⟩ (.slice (some ⟨g, 0, none⟩) (m + 1) cap)) := by
    have e1 := hg'.ent.block (hb.block w0.heap.size (by omega))
    have t1 := there_block hg'.th (hb.block w0.heap.size (by omega))
    have hOn := (Only.refl w0.heap.size w').setCell (p := ⟨w0.heap.size, 1, none⟩) rfl (.slice (some ⟨g, 0, none⟩) (m + 1) cap)
    exact ⟨(hg'.rd.block (hb.block _ (by omega))).block (hOn.block _ (by omega)), e1.set 1 (fun j _ => by
      unfold entF
      by_cases h0 : j = 0
      · rw [if_pos h0, if_pos h0, if_neg (by omega)]
      · rw [if_neg h0, if_neg h0]; split <;> rfl), there_set t1, (World.cell?_of_block (hOn.block (w0.heap.size + 1) (by omega))).trans ((World.cell?_of_block (hb.block (w0.heap.size + 1) (by omega))).trans hg'.c3), (World.frozen?_of_block (hOn.block (w0.heap.size + 1) (by omega))).trans ((World.frozen?_of_block (hb.block (w0.heap.size + 1) (by omega))).trans hg'.f3), hO.other hOn (by omega), (hg'.bel.trans (hb.mono (by omega))).trans (hOn.below (Nat.le_refl _))⟩
  refine h g cap w' (Lib.hid hG2) ?_ ?_
  · exact (World.cell?_of_block (hb.block w0.heap.size (by omega))).trans hg'.ent.z1
  · exact (World.frozen?_of_block (hb.block w0.heap.size (by omega))).trans (hg'.th 1 (by omega)).2
theorem leaves_congr {P : Program} {fn : Func} {t t' : Array Value} {R : Ending → World → Prop} (h : ∀ v w, (results fn t).run P w = .ok v w → (results fn t').run P w = .ok v w) : ∀ (ds : List Deferred) (u : FrameMode) (w : World), Leaves P fn t R ds u w → Leaves P fn t' R ds u w
  | [], .returning, w, ⟨v, h1, h2⟩ => ⟨v, h _ _ h1, h2⟩
  | [], .panicking _, _, hl => hl
  | [], .run, _, hl => hl.elim
  | d :: ds, u, w, ⟨hu, fv, cap, f, args, h1, h2, h3⟩ => ⟨hu, fv, cap, f, args, h1, h2, h3.mono fun e u' w' he => by
      cases e with
      | returned v => exact leaves_congr h ds _ _ he
      | panicked chain => exact leaves_congr h ds _ _ he
      | outgrown => exact he⟩
/-- What is laid into a scratch slot of Get does not matter to who leaves it by a panic. -/
theorem get_put (k : Nat) (hk : k ≠ 2 ∧ k ≠ 3) (v : Value) (R : Ending → World → Prop) (c : List PanicEntry) (a : Act) (w : World) (h : bodyPostD Try.prog Try.f67 R (.panic c) (a.put (some k) v) w) : bodyPostD Try.prog Try.f67 R (.panic c) a w := by
  have h' : Leaves Try.prog Try.f67 (a.tmps.setIfInBounds k v) R a.defers (.panicking c) w := h
  show Leaves Try.prog Try.f67 a.tmps R a.defers (.panicking c) w
  refine leaves_congr (fun v' w' hr => ?_) _ _ _ h'
  have e2 : (a.tmps.setIfInBounds k v)[2]?.getD undef = a.tmps[2]?.getD undef := by rw [Array.getElem?_setIfInBounds, if_neg hk.1]
  have e3 : (a.tmps.setIfInBounds k v)[3]?.getD undef = a.tmps[3]?.getD undef := by rw [Array.getElem?_setIfInBounds, if_neg hk.2]
  simpa [results, Try.results67, e2, e3] using hr
theorem get_shortH {w wr : World} {bs : List Int} {b o C i m : Nat} {fr : Int} {sv : Value} {E : Nat → Nat → Int} {I : Nat → Int} (h : Hid (GS w bs b o C i fr sv m E I wr)) (hT : Hid (bs.length ≤ i → bs.length < gTot bs)) (hl : bs.length ≤ i) (tmps : Array Value) (h2 : tmps.getD 2 undef = .pointer (some ⟨w.heap.size, 0, none⟩)) (h3 : tmps.getD 3 undef = .pointer (some ⟨w.heap.size + 1, 0, none⟩)) :
    bodyPostD Try.prog Try.f67 (fun e w' => GetPost w.heap.size bs e w' ∧ Below w.heap.size w w') (.panic wrongP) { tmps := tmps, defers := [{ target := .fn (.func 68) #[.pointer (some ⟨w.heap.size, 0, none⟩), .pointer (some ⟨w.heap.size + 1, 0, none⟩)], args := #[] }] } wr :=
  get_short h.out (hT.out hl) tmps h2 h3
theorem gN_lt {bs : List Int} (h : ByteL bs) : gN bs < 256 := by
  have := h 4
  unfold gN
  omega
end Go.Proofs.Ytembppihfcclcaa
