/-
  Wire: where the reader of a message stands. Wire: the reader's calls, as message makes them.
-/
import Derived.Test.YtembppihfcclcaaG14x
import Derived.Maps.AppendAt
namespace Go.Proofs.Ytembppihfcclcaa
set_option linter.unusedVariables false
open Go.ChangeShapes Go.WideShapes Go.ChangeAt Go.RowKit

set_option linter.unusedSimpArgs false
theorem OwnB.bytes0 {w : World} {B : Nat} {v : Value} {bs : List Int} (h : OwnB w B v bs) : BytesV w v bs := by
  by_cases hn : 0 < bs.length
  · exact h.bytes hn
  · have h0 : bs = [] := List.length_eq_zero_iff.1 (by omega)
    subst h0
    rcases h.2 with ⟨rfl, -⟩ | ⟨g, cap, cur, rfl, -, -, h1, h2, -⟩
    · exact ⟨none, 0, rfl, Nat.le_refl _, Nat.zero_le _, fun h => absurd h (by simp)⟩
    · exact ⟨_, cap, rfl, h1, h2, fun h => absurd h (by simp)⟩
theorem MsgAt.congr {w : World} {b : Nat} {F F' : Nat → Int} {iv lv dv : Value} (h : MsgAt w b F iv lv dv) (hf : ∀ k, k < 13 → F k = F' k) : MsgAt w b F' iv lv dv := ⟨fun k hk => by
  rw [h.cell k hk]
  unfold msgF
  by_cases h13 : k = 13
  · rw [if_pos h13, if_pos h13]
  · by_cases h14 : k = 14
    · rw [if_neg h13, if_pos h14, if_neg h13, if_pos h14]
    · by_cases h15 : k = 15
      · rw [if_neg h13, if_neg h14, if_pos h15, if_neg h13, if_neg h14, if_pos h15]
      · rw [if_neg h13, if_neg h14, if_neg h15, if_neg h13, if_neg h14, if_neg h15, hf k (by omega)]⟩
theorem MsgAt.set {w : World} {b : Nat} {F F' : Nat → Int} {iv lv dv iv' lv' dv' v : Value} (h : MsgAt w b F iv lv dv) (k : Nat) (hf : ∀ j, j < 16 → msgF F' iv' lv' dv' j = if j = k then v else msgF F iv lv dv j) : MsgAt (w.setCell ⟨b, k, none⟩ v) b F' iv' lv' dv' := by
  constructor
  intro j hj
  rw [hf j hj]
  have hc := h.cell j hj
  by_cases e : j = k
  · subst e
    rw [if_pos rfl]
    exact World.cell?_setCell_same _ _ _ hc
  · rw [if_neg e, World.cell?_setCell_other _ _ _ _ (by simp only [ne_eq, Addr.mk.injEq, true_and, and_true]; omega)]
    exact hc
theorem there_setW {w : World} {b k n : Nat} {v : Value} (h : w.there b 0 n) : (w.setCell ⟨b, k, none⟩ v).there b 0 n := fun j hj => by
  obtain ⟨h1, h2⟩ := h j hj
  refine ⟨?_, by rw [World.frozen?_setCell]; exact h2⟩
  by_cases e : j = k
  · subst e
    obtain ⟨u, hu⟩ := Option.isSome_iff_exists.1 h1
    rw [Nat.zero_add] at hu ⊢
    rw [World.cell?_setCell_same _ _ _ hu]; rfl
  · rw [World.cell?_setCell_other _ _ _ _ (by simp only [ne_eq, Addr.mk.injEq, true_and, and_true]; omega)]
    exact h1
/-- The first m numbers that the bytes say. -/
def gFs (bs : List Int) (m : Nat) : Nat → Int := fun k => if k < m then gF bs k else 0
/-- Where message stands: its reader at place i, the message so far at the block behind its own result. -/
structure GM (w : World) (bs : List Int) (R b o C i m : Nat) (iv : Value) (ni : Nat) (lv : Value) (nl : Nat) (dv : Value) (d : List Int) (wr : World) : Prop where
  rd : RwAt wr R b o bs.length C i
  msg : MsgAt wr (w.heap.size + 1) (gFs bs m) iv lv dv
  th3 : wr.there (w.heap.size + 1) 0 16
  th2 : wr.there w.heap.size 0 16
  rdw : RdW R w wr
  bya : BytesAt wr b o bs
  oi : OwnI wr (w.heap.size + 2) iv ni (gIn bs)
  ol : OwnL wr (w.heap.size + 2) lv nl (gD bs)
  od : OwnB wr (w.heap.size + 2) dv d
  sep : ∀ g, iv.ownBlock = some g → lv.ownBlock ≠ some g
section
variable {w wr w' : World} {bs : List Int} {R b o C i j m ni nl : Nat} {iv lv dv : Value} {d : List Int}
theorem GM.lt (h : GM w bs R b o C i m iv ni lv nl dv d wr) : w.heap.size + 1 < wr.heap.size := h.msg.lt
theorem GM.read (h : GM w bs R b o C i m iv ni lv nl dv d wr) (hR : R < w.heap.size) (hb : b < w.heap.size) (hbR : b ≠ R) (hd : RdW R wr w') (hr : RwAt w' R b o bs.length C j) : GM w bs R b o C j m iv ni lv nl dv d w' := by
  have hlt := h.lt
  exact ⟨hr, h.msg.block (hd.block _ hlt (by omega)), there_block h.th3 (hd.block _ hlt (by omega)), there_block h.th2 (hd.block _ (by omega) (by omega)), h.rdw.trans hd, h.bya.block (hd.block b (by omega) hbR), h.oi.rdW hd (by omega), h.ol.rdW hd (by omega), h.od.rdW hd (by omega), h.sep⟩
theorem OwnI.other {B n T : Nat} {v : Value} {I : Nat → Int} (h : OwnI w B v n I) (ho : Only T w w') (hT : T < B) : OwnI w' B v n I := h.rdW ho.rdW hT
theorem OwnL.other {B n T : Nat} {v : Value} {D : Nat → Ent} (h : OwnL w B v n D) (ho : Only T w w') (hT : T < B) : OwnL w' B v n D := h.rdW ho.rdW hT
theorem RdW.setCell (h : RdW R w wr) {p : Addr} (hp : w.heap.size ≤ p.block) (u : Value) : RdW R w (wr.setCell p u) := by
  refine ⟨h.os, h.tape, h.output, by simpa [World.setCell] using h.size, fun k hk hR => (Below.heap_setCell _ _ _ _ (by omega)).trans (h.block k hk hR)⟩
theorem GM.grow {B : Nat} (h : GM w bs R b o C i m iv ni lv nl dv d wr) (hR : R < w.heap.size) (hb : b < w.heap.size) (hbR : b ≠ R) (hB : Below B wr w') (hs : wr.heap.size ≤ B) : GM w bs R b o C i m iv ni lv nl dv d w' :=
  h.read hR hb hbR (rdW_of hB hs) (h.rd.block (hB.block R (by have := h.rd.lt; omega)))
theorem GM.drew (h : GM w bs R b o C i m iv ni lv nl dv d wr) (hR : R < w.heap.size) (hb : b < w.heap.size) (hbR : b ≠ R) : GM w bs R b o C i m iv ni lv nl dv d wr.drew :=
  h.grow hR hb hbR ((Below.refl wr.heap.size wr).drew) (Nat.le_refl _)
/-- The next number goes into its cell. -/
theorem GM.num (h : GM w bs R b o C i m iv ni lv nl dv d wr) (hR : R < w.heap.size) (hb : b < w.heap.size) (hm : m < 13) (x : Int) (hx : x = gF bs m) : GM w bs R b o C i (m + 1) iv ni lv nl dv d (wr.setCell ⟨w.heap.size + 1, m, none⟩ (.int (Ytembppihfcclcaa.mk m) x)) := by
  subst hx
  have hO := (Only.refl (w.heap.size + 1) wr).setCell (p := ⟨w.heap.size + 1, m, none⟩) rfl (.int (Ytembppihfcclcaa.mk m) (gF bs m))
  have hlt := h.lt
  refine ⟨h.rd.block (hO.block R (by omega)), h.msg.set m (fun j hj => ?_), there_setW h.th3, there_block h.th2 (hO.block _ (by omega)), h.rdw.setCell (by show _ ≤ w.heap.size + 1; omega) _, h.bya.block (hO.block b (by omega)), h.oi.other hO (by omega), h.ol.other hO (by omega), h.od.other hO (by omega), h.sep⟩
  unfold msgF gFs
  by_cases h13 : j = 13
  · rw [if_pos h13, if_neg (by omega), if_pos h13]
  · by_cases h14 : j = 14
    · rw [if_neg h13, if_pos h14, if_neg (by omega), if_neg h13, if_pos h14]
    · by_cases h15 : j = 15
      · rw [if_neg h13, if_neg h14, if_pos h15, if_neg (by omega), if_neg h13, if_neg h14, if_pos h15]
      · rw [if_neg h13, if_neg h14, if_neg h15]
        by_cases hjm : j = m
        · subst hjm
          rw [if_pos rfl, if_pos (by omega)]
        · rw [if_neg hjm, if_neg h13, if_neg h14, if_neg h15]
          by_cases hlt : j < m
          · rw [if_pos hlt, if_pos (by omega)]
          · rw [if_neg hlt, if_neg (by omega)]
/-- A number that is no part stays zero. -/
theorem GM.skip (h : GM w bs R b o C i m iv ni lv nl dv d wr) (hx : gF bs m = 0) : GM w bs R b o C i (m + 1) iv ni lv nl dv d wr := by
  refine ⟨h.rd, h.msg.congr (fun k hk => ?_), h.th3, h.th2, h.rdw, h.bya, h.oi, h.ol, h.od, h.sep⟩
  unfold gFs
  by_cases hkm : k = m
  · subst hkm
    rw [if_neg (by omega), if_pos (by omega), hx]
  · by_cases hlt : k < m
    · rw [if_pos hlt, if_pos (by omega)]
    · rw [if_neg hlt, if_neg (by omega)]
end
theorem leV1 (bs : List Int) (i : Nat) : leV bs i 1 = zz bs i := by
  show (0 : Int) + zz bs (i + 0) * 256 ^ 0 = zz bs i
  rw [Nat.add_zero]; simp
/-- append of one input to the inputs read so far, in a region that draws its order. -/
theorem step_app_in {ops : Array Oper} {op : Oper} {a : Act} {w w1 : World} {K : Act → World → Prop} {Q : Exit → Act → World → Prop} {E' : Prop} (hg : op.guard = none)
    (s x : Operand) (ho : op.op = Op.call { callee := Callee.builtin Builtin.append, args := #[s, x], argTypes := #[26, 26] })
    (B : Nat) (iv : Value) (m : Nat) (I : Nat → Int) (hown : OwnI w1 B iv m I) (hm : m ≤ 1000) (hs : a.eval s = iv) (hB : B ≤ w1.heap.size) (x0 x1 x2 : Int) (h0 : x0 = I (m * 3)) (h1 : x1 = I (m * 3 + 1)) (h2 : x2 = I (m * 3 + 2))
    (hw : w = w1.alloc (Obj.cells #[.int .i8 x0, .int .i8 x1, .int .u8 x2] 34)) (hx : a.eval x = .slice (some ⟨w1.heap.size, 0, none⟩) 1 1)
    (h : ∀ v' w', OwnI w' B v' (m + 1) I → w1.grownBy w' iv.ownBlock → (v'.ownBlock = iv.ownBlock ∨ v'.ownBlock = some (w1.heap.size + 1)) → (∃ g cap, v' = .slice (some ⟨g, 0, none⟩) (m + 1) cap) → K (a.put op.dst v') w') :
    if Region.wanted op (yielded ops a.tmps) = true then Oper.wp Try.prog op a w K Q else E' := by
  have hwn : Region.wanted op (yielded ops a.tmps) = true := by simp [Region.wanted, hg]
  rw [if_pos hwn]
  subst hw h0 h1 h2
  obtain ⟨i0, hi, hz0, hz1, hz2⟩ := info_parts (P := Try.prog) (e := 34) (z := .agg #[.int .i8 0, .int .i8 0, .int .u8 0]) (size := 3) (bytes := 3) (by kernel_rfl)
  have hnews : ∀ j u, [Value.int .i8 (I (m * 3)), .int .i8 (I (m * 3 + 1)), .int .u8 (I (m * 3 + 2))][j]? = some u → (w1.alloc (Obj.cells #[.int .i8 (I (m * 3)), .int .i8 (I (m * 3 + 1)), .int .u8 (I (m * 3 + 2))] 34)).cell? ((⟨w1.heap.size, 0, none⟩ : Addr).add j) = some u := fun j u hj => by
    rw [Go.WideShapes.add_plain, World.cell?_alloc_new, Nat.zero_add, ← hj]
    exact List.getElem?_toArray
  have hone : ∀ u ∈ [Value.int .i8 (I (m * 3)), .int .i8 (I (m * 3 + 1)), .int .u8 (I (m * 3 + 2))], u.oneCell' = true := by
    intro u hu
    simp only [List.mem_cons, List.not_mem_nil, or_false] at hu
    rcases hu with rfl | rfl | rfl <;> rfl
  obtain ⟨v', w', hr, h2, h3, -, h5⟩ := run_append_own_at (P := Try.prog) (w1.alloc (Obj.cells #[.int .i8 (I (m * 3)), .int .i8 (I (m * 3 + 1)), .int .u8 (I (m * 3 + 2))] 34)) B 26 op.type 34 i0 (.agg #[.int .i8 0, .int .i8 0, .int .u8 0]) 3 3 Try.underlying26 hi hz0 hz1 hz2 rfl (by decide) iv m (inL3 I m) (World.ownsRow.alloc hown _) ⟨w1.heap.size, 0, none⟩ 1 1 _ rfl hnews hone (by unfold maxLen; omega) (by omega) (by simp; omega)
  unfold Oper.wp execOp
  simp only [ho, resolve, invoke, builtin, Sem.run_bind, Sem.run_pure, Result.andThen_ok, List.map_toArray, List.map_cons, List.map_nil, hs, hx, hr]
  have hO : OwnI w' B v' (m + 1) I := h2
  refine h v' w' hO ⟨h3.os, h3.tape, h3.output, by have := h3.size; simp at this; omega, fun k hk hne => (h3.block k (by simp; omega) hne).trans (Below.heap_alloc w1 _ k hk)⟩ (by simpa using h5) ?_
  rcases h2.2 with ⟨-, h0⟩ | ⟨g, cap, cur, hv, -⟩
  · omega
  · exact ⟨g, cap, hv⟩
/-- The row of inputs goes into its cell. -/
theorem GM.inp {w wr w' : World} {bs : List Int} {R b o C i m ni nl : Nat} {iv iv' lv dv : Value} {d : List Int} (h : GM w bs R b o C i m iv ni lv nl dv d wr) (hR : R < w.heap.size) (hb : b < w.heap.size) (hlv : lv = .slice none 0 0) (hdv : dv = .slice none 0 0) (hO : OwnI w' (w.heap.size + 2) iv' (ni + 1) (gIn bs)) (hg : wr.grownBy w' iv.ownBlock) :
    GM w bs R b o C i m iv' (ni + 1) lv nl dv d (w'.setCell ⟨w.heap.size + 1, 13, none⟩ iv') ∧ w'.cell? ⟨w.heap.size + 1, 13, none⟩ = some iv ∧ w'.frozen? ⟨w.heap.size + 1, 13, none⟩ = false := by
  have hlt := h.lt
  have hk : ∀ k, k < w.heap.size + 2 → w'.heap[k]? = wr.heap[k]? := fun k hk => hg.block k (by omega) (fun e => by have := (World.ownsRow.lt h.oi k e.symm).1; omega)
  have hS := (Only.refl (w.heap.size + 1) w').setCell (p := ⟨w.heap.size + 1, 13, none⟩) rfl iv'
  have hm' := h.msg.block (hk _ (by omega))
  have ht' := there_block h.th3 (hk _ (by omega))
  subst hlv hdv
  have hrd : RdW R w w' := ⟨hg.os.trans h.rdw.os, hg.tape.trans h.rdw.tape, hg.output.trans h.rdw.output, Nat.le_trans h.rdw.size hg.size, fun k hk1 hk2 => (hk k (by omega)).trans (h.rdw.block k hk1 hk2)⟩
  refine ⟨⟨(h.rd.block (hk R (by omega))).block (hS.block R (by omega)), hm'.set 13 (fun j hj => ?_), there_setW ht', there_block (there_block h.th2 (hk _ (by omega))) (hS.block _ (by omega)), hrd.setCell (by show _ ≤ w.heap.size + 1; omega) _, (h.bya.block (hk b (by omega))).block (hS.block b (by omega)), hO.other hS (by omega), ?_, ?_, fun g _ => by simp [Value.ownBlock]⟩, hm'.c13, by have := (ht' 13 (by omega)).2; rwa [Nat.zero_add] at this⟩
  · unfold msgF
    by_cases h13 : j = 13
    · rw [if_pos h13, if_pos h13]
    · rw [if_neg h13, if_neg h13, if_neg h13]
  · obtain ⟨S, h1, h2⟩ := h.ol.ex
    have hn0 : nl = 0 := by
      rcases h1.2 with ⟨-, h0⟩ | ⟨g, cap, cur, e, -⟩
      · exact h0
      · cases e
    subst hn0
    exact ⟨S, ⟨h1.1, Or.inl ⟨rfl, rfl⟩⟩, fun i hi => by omega⟩
  · rcases h.od.2 with ⟨-, h0⟩ | ⟨g, cap, cur, e, -⟩
    · exact ⟨h.od.1, Or.inl ⟨rfl, h0⟩⟩
    · cases e
/-- append of one entry to the entries read so far, in a region that draws its order. -/
theorem step_app_en {ops : Array Oper} {op : Oper} {a : Act} {w w1 : World} {K : Act → World → Prop} {Q : Exit → Act → World → Prop} {E' : Prop} (hg : op.guard = none)
    (s x : Operand) (ho : op.op = Op.call { callee := Callee.builtin Builtin.append, args := #[s, x], argTypes := #[27, 27] })
    (B : Nat) (lv : Value) (m : Nat) (D : Nat → Ent) (hown : OwnL w1 B lv m D) (hm : m ≤ 1000) (hs : a.eval s = lv) (hB : B ≤ w1.heap.size) (sv : Value) (hsv : OwnE w1 B sv (D m).n (D m).E) (hsep : ∀ g, sv.ownBlock = some g → lv.ownBlock ≠ some g)
    (hw : w = w1.alloc (Obj.cells (entL (D m).fr sv (D m).I).toArray 37)) (hx : a.eval x = .slice (some ⟨w1.heap.size, 0, none⟩) 1 1)
    (h : ∀ v' w', OwnL w' B v' (m + 1) D → w1.grownBy w' lv.ownBlock → (v'.ownBlock = lv.ownBlock ∨ v'.ownBlock = some (w1.heap.size + 1)) → (∃ g cap, v' = .slice (some ⟨g, 0, none⟩) (m + 1) cap) → K (a.put op.dst v') w') :
    if Region.wanted op (yielded ops a.tmps) = true then Oper.wp Try.prog op a w K Q else E' := by
  have hwn : Region.wanted op (yielded ops a.tmps) = true := by simp [Region.wanted, hg]
  rw [if_pos hwn]
  subst hw
  obtain ⟨S, hrow, hev⟩ := hown.ex
  have hone : ∀ u ∈ entL (D m).fr sv (D m).I, u.oneCell' = true := fun u hu => (Array.all_eq_true_iff_forall_mem.1 (hsv.evs.one (D m).fr (D m).I)) u (by simpa using hu)
  obtain ⟨i0, hi, hz0, hz1, hz2⟩ := info_parts (P := Try.prog) (e := 37) (z := .agg #[.int .i64 0, .slice none 0 0, .int .i8 0, .int .i8 0, .int .u8 0, .int .i8 0, .int .i8 0, .int .u8 0, .int .i8 0, .int .i8 0, .int .u8 0, .int .i8 0, .int .i8 0, .int .u8 0, .int .i8 0, .int .i8 0, .int .u8 0, .int .i8 0, .int .i8 0, .int .u8 0, .int .i8 0, .int .i8 0, .int .u8 0, .int .i8 0, .int .i8 0, .int .u8 0]) (size := 26) (bytes := 56) (by kernel_rfl)
  have hnews : ∀ j u, (entL (D m).fr sv (D m).I)[j]? = some u → (w1.alloc (Obj.cells (entL (D m).fr sv (D m).I).toArray 37)).cell? ((⟨w1.heap.size, 0, none⟩ : Addr).add j) = some u := fun j u hj => by
    rw [Go.WideShapes.add_plain, World.cell?_alloc_new, Nat.zero_add, ← hj]
    exact List.getElem?_toArray
  obtain ⟨v', w', hr, h2, h3, -, h5⟩ := run_append_own_at (P := Try.prog) (w1.alloc (Obj.cells (entL (D m).fr sv (D m).I).toArray 37)) B 27 op.type 37 i0 (.agg #[.int .i64 0, .slice none 0 0, .int .i8 0, .int .i8 0, .int .u8 0, .int .i8 0, .int .i8 0, .int .u8 0, .int .i8 0, .int .i8 0, .int .u8 0, .int .i8 0, .int .i8 0, .int .u8 0, .int .i8 0, .int .i8 0, .int .u8 0, .int .i8 0, .int .i8 0, .int .u8 0, .int .i8 0, .int .i8 0, .int .u8 0, .int .i8 0, .int .i8 0, .int .u8 0]) 26 56 Try.underlying27 hi hz0 hz1 hz2 rfl (by decide) lv m (enL D S m) (World.ownsRow.alloc hrow _) ⟨w1.heap.size, 0, none⟩ 1 1 (entL (D m).fr sv (D m).I) (by rw [entL_len]) hnews hone (by unfold maxLen; omega) (by omega) (by simp; omega)
  unfold Oper.wp execOp
  simp only [ho, resolve, invoke, builtin, Sem.run_bind, Sem.run_pure, Result.andThen_ok, List.map_toArray, List.map_cons, List.map_nil, hs, hx, hr]
  have hg2 : w1.grownBy w' lv.ownBlock := ⟨h3.os, h3.tape, h3.output, by have := h3.size; simp at this; omega, fun k hk hne => (h3.block k (by simp; omega) hne).trans (Below.heap_alloc w1 _ k hk)⟩
  have h5' : v'.ownBlock = lv.ownBlock ∨ v'.ownBlock = some (w1.heap.size + 1) := by simpa using h5
  have hO : OwnL w' B v' (m + 1) D := by
    refine ⟨fun i => if i = m then sv else S i, ?_, fun i hi' => ?_⟩
    · have e : ∀ n, n ≤ m → enL D (fun i => if i = m then sv else S i) n = enL D S n := by
        intro n
        induction n with
        | zero => intro _; rfl
        | succ n ih =>
          intro hn
          unfold enL
          rw [ih (by omega), if_neg (by omega)]
      have e2 : enL D (fun i => if i = m then sv else S i) (m + 1) = enL D S m ++ entL (D m).fr sv (D m).I := by
        show enL D (fun i => if i = m then sv else S i) m ++ entL (D m).fr (if m = m then sv else S m) (D m).I = _
        rw [e m (Nat.le_refl _), if_pos rfl]
      rw [e2]
      exact h2
    · have hk : ∀ (sv' : Value) (n : Nat) (E : Nat → Nat → Int), OwnE w1 B sv' n E → (sv'.ownBlock = none ∨ sv'.ownBlock ≠ lv.ownBlock) → OwnE w' B sv' n E ∧ (sv'.ownBlock = none ∨ sv'.ownBlock ≠ v'.ownBlock) := by
        intro sv' n E hE hne
        refine ⟨World.ownsRow.kept hE hg2 hne, ?_⟩
        cases hb : sv'.ownBlock with
        | none => exact Or.inl rfl
        | some g =>
          right
          have hlt := (World.ownsRow.lt hE g hb).2
          rcases h5' with e | e
          · rw [e, ← hb]
            rcases hne with h0 | h0
            · rw [hb] at h0; cases h0
            · exact h0
          · rw [e]; intro h; injection h with h; omega
      by_cases hi2 : i = m
      · subst hi2
        simp only [if_true]
        refine hk sv _ _ hsv ?_
        cases hb : sv.ownBlock with
        | none => exact Or.inl rfl
        | some g => exact Or.inr (fun e => hsep g hb e.symm)
      · simp only [if_neg hi2]
        exact hk (S i) _ _ (hev i (by omega)).1 (hev i (by omega)).2
  refine h v' w' hO hg2 h5' ?_
  rcases h2.2 with ⟨-, h0⟩ | ⟨g, cap, cur, hv, -⟩
  · omega
  · exact ⟨g, cap, hv⟩
/-- The row of entries goes into its cell. -/
theorem GM.ent {w wr w' : World} {bs : List Int} {R b o C i m ni nl : Nat} {iv lv lv' dv : Value} {d : List Int} (h : GM w bs R b o C i m iv ni lv nl dv d wr) (hR : R < w.heap.size) (hb : b < w.heap.size) (hdv : dv = .slice none 0 0) (hO : OwnL w' (w.heap.size + 2) lv' (nl + 1) (gD bs)) (hg : wr.grownBy w' lv.ownBlock) (hob : lv'.ownBlock = lv.ownBlock ∨ lv'.ownBlock = some (wr.heap.size + 1)) :
    GM w bs R b o C i m iv ni lv' (nl + 1) dv d (w'.setCell ⟨w.heap.size + 1, 14, none⟩ lv') ∧ w'.cell? ⟨w.heap.size + 1, 14, none⟩ = some lv ∧ w'.frozen? ⟨w.heap.size + 1, 14, none⟩ = false := by
  have hlt := h.lt
  obtain ⟨S, hrow, -⟩ := h.ol.ex
  have hk : ∀ k, k < w.heap.size + 2 → w'.heap[k]? = wr.heap[k]? := fun k hk => hg.block k (by omega) (fun e => by have := (World.ownsRow.lt hrow k e.symm).1; omega)
  have hS := (Only.refl (w.heap.size + 1) w').setCell (p := ⟨w.heap.size + 1, 14, none⟩) rfl lv'
  have hm' := h.msg.block (hk _ (by omega))
  have ht' := there_block h.th3 (hk _ (by omega))
  subst hdv
  have hrd : RdW R w w' := ⟨hg.os.trans h.rdw.os, hg.tape.trans h.rdw.tape, hg.output.trans h.rdw.output, Nat.le_trans h.rdw.size hg.size, fun k hk1 hk2 => (hk k (by omega)).trans (h.rdw.block k hk1 hk2)⟩
  have hoi : OwnI w' (w.heap.size + 2) iv ni (gIn bs) := by
    refine World.ownsRow.kept h.oi hg ?_
    cases hi : iv.ownBlock with
    | none => exact Or.inl rfl
    | some g => exact Or.inr (fun e => h.sep g hi e.symm)
  refine ⟨⟨(h.rd.block (hk R (by omega))).block (hS.block R (by omega)), hm'.set 14 (fun j hj => ?_), there_setW ht', there_block (there_block h.th2 (hk _ (by omega))) (hS.block _ (by omega)), hrd.setCell (by show _ ≤ w.heap.size + 1; omega) _, (h.bya.block (hk b (by omega))).block (hS.block b (by omega)), hoi.other hS (by omega), hO.other hS (by omega), ?_, ?_⟩, hm'.c14, by have := (ht' 14 (by omega)).2; rwa [Nat.zero_add] at this⟩
  · unfold msgF
    by_cases h13 : j = 13
    · rw [if_pos h13, if_neg (by omega), if_pos h13]
    · by_cases h14 : j = 14
      · rw [if_neg h13, if_pos h14, if_pos h14]
      · rw [if_neg h13, if_neg h14, if_neg h14, if_neg h13, if_neg h14]
  · rcases h.od.2 with ⟨-, h0⟩ | ⟨g, cap, cur, e, -⟩
    · exact ⟨h.od.1, Or.inl ⟨rfl, h0⟩⟩
    · cases e
  · intro g hi
    have hlt2 := (World.ownsRow.lt h.oi g hi).2
    rcases hob with e | e
    · rw [e]; exact h.sep g hi
    · rw [e]; intro e2; injection e2 with e2; omega
/-- The data go into their cell. -/
theorem GM.dat {w wr w' : World} {bs : List Int} {R b o C i m ni nl : Nat} {iv lv dv dv' : Value} {d d' : List Int} (h : GM w bs R b o C i m iv ni lv nl dv d wr) (hR : R < w.heap.size) (hb : b < w.heap.size) (hdv : dv = .slice none 0 0) (hO : OwnB w' (w.heap.size + 2) dv' d') (hg : wr.grownBy w' dv.ownBlock) :
    GM w bs R b o C i m iv ni lv nl dv' d' (w'.setCell ⟨w.heap.size + 1, 15, none⟩ dv') ∧ w'.cell? ⟨w.heap.size + 1, 15, none⟩ = some dv ∧ w'.frozen? ⟨w.heap.size + 1, 15, none⟩ = false := by
  subst hdv
  have hB : Below wr.heap.size wr w' := ⟨hg.os, hg.tape, hg.output, hg.size, fun k hk => hg.block k hk (by simp [Value.ownBlock])⟩
  have hlt := h.lt
  have hS := (Only.refl (w.heap.size + 1) w').setCell (p := ⟨w.heap.size + 1, 15, none⟩) rfl dv'
  have hm' := h.msg.block (hB.block _ hlt)
  have ht' := there_block h.th3 (hB.block _ hlt)
  have hrd := h.rdw.trans (rdW_of (R := R) hB (Nat.le_refl _))
  refine ⟨⟨(h.rd.block (hB.block R (by omega))).block (hS.block R (by omega)), hm'.set 15 (fun j hj => ?_), there_setW ht', there_block (there_block h.th2 (hB.block _ (by omega))) (hS.block _ (by omega)), hrd.setCell (by show _ ≤ w.heap.size + 1; omega) _, (h.bya.block (hB.block b (by omega))).block (hS.block b (by omega)), (h.oi.below hB (Nat.le_refl _)).other hS (by omega), (h.ol.rdW (rdW_of (R := R) hB (Nat.le_refl _)) (by omega)).other hS (by omega), hO.other hS (by omega), h.sep⟩, hm'.c15, by have := (ht' 15 (by omega)).2; rwa [Nat.zero_add] at this⟩
  unfold msgF
  by_cases h13 : j = 13
  · rw [if_pos h13, if_neg (by omega), if_pos h13]
  · by_cases h14 : j = 14
    · rw [if_neg h13, if_pos h14, if_neg (by omega), if_neg h13, if_pos h14]
    · by_cases h15 : j = 15
      · rw [if_neg h13, if_neg h14, if_pos h15, if_pos h15]
      · rw [if_neg h13, if_neg h14, if_neg h15, if_neg h15, if_neg h13, if_neg h14, if_neg h15]
def MsgQ (bs : List Int) (R : Nat) (w : World) (e : Ending) (w' : World) : Prop :=
  (POk bs ∧ (∃ iv lv dv, e = .returned (.agg (msgL (gF bs) iv lv dv).toArray) ∧ OwnI w' w.heap.size iv (gNi bs) (gIn bs) ∧ OwnL w' w.heap.size lv (gNl bs) (gD bs) ∧ OwnB w' w.heap.size dv (gDt bs)) ∧ RdW R w w') ∨
  (¬ POk bs ∧ e = .panicked wrongW ∧ RdW R w w')
/-- The zero message's cells. -/
def bF (a b c d e : Int) : Nat → Int := fun k => if k = 0 then a else if k = 1 then b else if k = 2 then c else if k = 3 then d else if k = 4 then e else 0
theorem build_msg5 (a b c d e : Int) (w : World) : (Instr.build 30 #[(0, .int .i64 a), (1, .int .i64 b), (2, .int .u16 c), (3, .int .u16 d), (4, .int .u32 e)]).run Try.prog w = .ok (.agg (msgL (bF a b c d e) (.slice none 0 0) (.slice none 0 0) (.slice none 0 0)).toArray) w := by kernel_rfl
theorem there_msgZ (w : World) : (w.alloc (Obj.cells #[.int .i64 0, .int .i64 0, .int .u16 0, .int .u16 0, .int .u32 0, .int .i64 0, .int .i64 0, .int .i64 0, .int .i64 0, .int .i64 0, .int .i64 0, .int .u32 0, .int .u64 0, .slice none 0 0, .slice none 0 0, .slice none 0 0] 30)).there w.heap.size 0 16 := there_alloc_lit _ _ _ _ (by decide)
/-- A message laid into a block that was just made: as a step of the walk. -/
theorem wpList_store_msg {ops : Array Oper} {rest : List Oper} {op : Oper} {a : Act} {Q : Exit → Act → World → Prop} (hgd : op.guard = none) (x y : Operand) (ho : op.op = .store 30 x y)
    (F : Nat → Int) (iv lv dv : Value) (h1 : (msgL F iv lv dv).toArray.all (·.oneCell') = true) (w : World) (B : Nat) (hB : w.heap.size = B) (hx : a.eval x = .pointer (some ⟨B, 0, none⟩)) (hy : a.eval y = .agg (msgL F iv lv dv).toArray)
    (h : wpList Try.prog ops Q rest (a.put op.dst undef) (w.alloc (Obj.cells (msgL F iv lv dv).toArray 30))) : wpList Try.prog ops Q (op :: rest) a (w.alloc (Obj.cells #[.int .i64 0, .int .i64 0, .int .u16 0, .int .u16 0, .int .u32 0, .int .i64 0, .int .i64 0, .int .i64 0, .int .i64 0, .int .i64 0, .int .i64 0, .int .u32 0, .int .u64 0, .slice none 0 0, .slice none 0 0, .slice none 0 0] 30)) := by
  subst hB
  refine wpList_store_mid hgd 30 x y ho w.heap.size 0 (msgL F iv lv dv).toArray hx hy ?_ (by have e : (msgL F iv lv dv).toArray.size = (msgL F iv lv dv).length := List.size_toArray; rw [e]; exact size_msg _ _ _ _) h1 ?_
  · have e : (msgL F iv lv dv).toArray.size = 16 := by rw [List.size_toArray, msgL_len]
    rw [e]
    exact there_msgZ w
  · rw [show (msgL F iv lv dv).toArray.toList = msgL F iv lv dv from rfl, setCells_alloc, fill_all _ _ (by rw [msgL_len]; rfl)]
    exact h
theorem wpList_build_msg5 {W : World} {ops : Array Oper} {rest : List Oper} {o : Oper} {a : Act} {Q : Exit → Act → World → Prop} (f0 f1 f2 f3 f4 : Int) (hg : Region.wanted o (yielded ops a.tmps) = true) (p0 p1 p2 p3 p4 : Operand) (hop : o.op = Op.build 30 #[(0, p0), (1, p1), (2, p2), (3, p3), (4, p4)])
    (h0 : a.eval p0 = .int .i64 f0) (h1 : a.eval p1 = .int .i64 f1) (h2 : a.eval p2 = .int .u16 f2) (h3 : a.eval p3 = .int .u16 f3) (h4 : a.eval p4 = .int .u32 f4)
    (hK : wpList Try.prog ops Q rest (a.put o.dst (.agg (msgL (bF f0 f1 f2 f3 f4) (.slice none 0 0) (.slice none 0 0) (.slice none 0 0)).toArray)) W) : wpList Try.prog ops Q (o :: rest) a W := by
  refine wpList_run hg ?_ hK
  have e : (Array.map (fun x => (x.fst, a.eval x.snd)) #[(0, p0), (1, p1), (2, p2), (3, p3), (4, p4)] : Array (Nat × Value)) = #[(0, .int .i64 f0), (1, .int .i64 f1), (2, .int .u16 f2), (3, .int .u16 f3), (4, .int .u32 f4)] := by simp [h0, h1, h2, h3, h4]
  simp only [execOp, hop]
  rw [e, Sem.run_bind, build_msg5]
  rfl
theorem nil_one (F : Nat → Int) : (msgL F (.slice none 0 0) (.slice none 0 0) (.slice none 0 0)).toArray.all (·.oneCell') = true := all_oneCell_toArray (by
  unfold msgL; intro x hx; rw [List.mem_map] at hx; obtain ⟨k, -, rfl⟩ := hx
  unfold msgF
  repeat' split
  all_goals rfl)
theorem results_msg (tmps : Array Value) (w : World) (T2 : Nat) (h2 : tmps.getD 2 undef = .pointer (some ⟨T2, 0, none⟩)) (F : Nat → Int) (iv lv dv : Value) (he : MsgAt w T2 F iv lv dv) :
    (results Try.f43 tmps).run Try.prog w = .ok (.agg (msgL F iv lv dv).toArray) w := by
  have hl := run_loadVar_mid (P := Try.prog) w T2 0 30 (msgL F iv lv dv) _ he.range Try.underlying30 rfl (size_msg F iv lv dv)
  have h2' : tmps[2]?.getD undef = .pointer (some ⟨T2, 0, none⟩) := by simpa using h2
  simp [results, Try.results43, h2', asAddr, hl]
theorem msgAt_stored {w : World} {b : Nat} (h : w.there b 0 16) (F : Nat → Int) (iv lv dv : Value) : MsgAt (w.setCells b 0 (msgL F iv lv dv)) b F iv lv dv := by
  constructor
  intro k hk
  have := World.rangeAt_setCells_same w b 0 (msgL F iv lv dv) (by rw [msgL_len]; exact h) k _ (msgL_get _ _ _ _ _ hk)
  rwa [Nat.zero_add] at this
end Go.Proofs.Ytembppihfcclcaa

namespace Go.Proofs.Ytembppihfcclcaa
set_option linter.unusedVariables false
open Go.ChangeShapes Go.WideShapes Go.ChangeAt Go.RowKit

set_option linter.unusedSimpArgs false
structure RX (w : World) (bs : List Int) (R b : Nat) : Prop where
  hR : R < w.heap.size
  hb : b < w.heap.size
  ne : b ≠ R
  by' : ByteL bs
/-- Where message stands ahead of the first store. -/
structure GA (w : World) (bs : List Int) (R b o C i : Nat) (wr : World) : Prop where
  rd : RwAt wr R b o bs.length C i
  sz : wr.heap.size = w.heap.size + 1
  th2 : wr.there w.heap.size 0 16
  rdw : RdW R w wr
  bya : BytesAt wr b o bs
theorem ga_start {w : World} {bs : List Int} {R b o C : Nat} (X : RX w bs R b) (hr : RwAt w R b o bs.length C 0) (hb : BytesAt w b o bs) : GA w bs R b o C 0 (w.alloc (Obj.cells #[.int .i64 0, .int .i64 0, .int .u16 0, .int .u16 0, .int .u32 0, .int .i64 0, .int .i64 0, .int .i64 0, .int .i64 0, .int .i64 0, .int .i64 0, .int .u32 0, .int .u64 0, .slice none 0 0, .slice none 0 0, .slice none 0 0] 30)) := by
  have hB := (Below.refl w.heap.size w).alloc (Nat.le_refl _) (Obj.cells #[.int .i64 0, .int .i64 0, .int .u16 0, .int .u16 0, .int .u32 0, .int .i64 0, .int .i64 0, .int .i64 0, .int .i64 0, .int .i64 0, .int .i64 0, .int .u32 0, .int .u64 0, .slice none 0 0, .slice none 0 0, .slice none 0 0] 30)
  exact ⟨hr.block (hB.block R X.hR), by simp, there_msgZ w, rdW_of hB (Nat.le_refl _), hb.block (hB.block b X.hb)⟩
theorem num_ga {w wr : World} {bs : List Int} {R b o C i : Nat} (X : RX w bs R b) (h : GA w bs R b o C i wr) (n : Nat) (hn0 : 0 < n) (hn8 : n ≤ 8) :
    Calls Try.prog 42 #[.pointer (some ⟨R, 0, none⟩), .int .i64 (n : Int)] wr fun e w' => (e = .returned (.int .u64 (leV bs i n)) ∧ Hid (GA w bs R b o C (i + n) w')) ∨ (Hid (bs.length < i + n) ∧ e = .panicked wrongW ∧ Hid (RdW R w w')) := by
  refine (rnum_q R b o C i n bs wr X.by' h.rd hn0 hn8 h.bya X.ne).mono ?_
  have hR := X.hR
  rintro e w' (⟨h1, rfl, hr, ho⟩ | ⟨h1, rfl, rfl⟩)
  · exact Or.inl ⟨rfl, Lib.hid ⟨hr, by rw [ho.size]; exact h.sz, there_block h.th2 (ho.block _ (by omega)), h.rdw.trans ho.rdW, h.bya.block (ho.block b X.ne)⟩⟩
  · exact Or.inr ⟨Lib.hid h1, rfl, Lib.hid h.rdw⟩
theorem gm_start {w wr : World} {bs : List Int} {R b o C : Nat} (X : RX w bs R b) (h : GA w bs R b o C 10 wr) :
    GM w bs R b o C 10 5 (.slice none 0 0) 0 (.slice none 0 0) 0 (.slice none 0 0) [] (wr.alloc (Obj.cells (msgL (bF (leV bs 0 1) (leV bs 1 1) (leV bs 2 2) (leV bs 4 2) (leV bs 6 4)) (.slice none 0 0) (.slice none 0 0) (.slice none 0 0)).toArray 30)) := by
  have hB := (Below.refl wr.heap.size wr).alloc (Nat.le_refl _) (Obj.cells (msgL (bF (leV bs 0 1) (leV bs 1 1) (leV bs 2 2) (leV bs 4 2) (leV bs 6 4)) (.slice none 0 0) (.slice none 0 0) (.slice none 0 0)).toArray 30)
  have hA := msgAt_new (bF (leV bs 0 1) (leV bs 1 1) (leV bs 2 2) (leV bs 4 2) (leV bs 6 4)) (.slice none 0 0) (.slice none 0 0) (.slice none 0 0) 30 wr
  have hT : (wr.alloc (Obj.cells (msgL (bF (leV bs 0 1) (leV bs 1 1) (leV bs 2 2) (leV bs 4 2) (leV bs 6 4)) (.slice none 0 0) (.slice none 0 0) (.slice none 0 0)).toArray 30)).there wr.heap.size 0 16 := there_alloc_lit _ _ _ _ (by
    have e : (msgL (bF (leV bs 0 1) (leV bs 1 1) (leV bs 2 2) (leV bs 4 2) (leV bs 6 4)) (.slice none 0 0) (.slice none 0 0) (.slice none 0 0)).toArray.size = 16 := by rw [List.size_toArray, msgL_len]
    rw [e]; exact Nat.le_refl _)
  have hs := h.sz
  have hR := X.hR
  have hb := X.hb
  rw [hs] at hA hT
  generalize wr.alloc (Obj.cells (msgL (bF (leV bs 0 1) (leV bs 1 1) (leV bs 2 2) (leV bs 4 2) (leV bs 6 4)) (.slice none 0 0) (.slice none 0 0) (.slice none 0 0)).toArray 30) = w2 at *
  refine ⟨h.rd.block (hB.block R (by omega)), hA.congr (fun k hk => ?_), hT, there_block h.th2 (hB.block _ (by omega)), h.rdw.trans (rdW_of hB (Nat.le_refl _)), h.bya.block (hB.block b (by omega)), World.ownsRow_nil _ _ _ _, ⟨fun _ => .slice none 0 0, World.ownsRow_nil _ _ _ _, fun i hi => by omega⟩, World.ownsRow_nil _ _ _ _, fun g e => by simp [Value.ownBlock]⟩
  unfold bF gFs gF
  by_cases h0 : k = 0
  · subst h0; rfl
  · by_cases h1 : k = 1
    · subst h1; rfl
    · by_cases h2 : k = 2
      · subst h2; rfl
      · by_cases h3 : k = 3
        · subst h3; rfl
        · by_cases h4 : k = 4
          · subst h4; rfl
          · rw [if_neg h0, if_neg h1, if_neg h2, if_neg h3, if_neg h4, if_neg (by omega)]
section
variable {w wr : World} {bs : List Int} {R b o C i j m ni nl : Nat} {iv lv dv : Value} {d : List Int}
theorem num_gm (X : RX w bs R b) (h : GM w bs R b o C i m iv ni lv nl dv d wr) (n : Nat) (hn0 : 0 < n) (hn8 : n ≤ 8) :
    Calls Try.prog 42 #[.pointer (some ⟨R, 0, none⟩), .int .i64 (n : Int)] wr fun e w' => (e = .returned (.int .u64 (leV bs i n)) ∧ Hid (GM w bs R b o C (i + n) m iv ni lv nl dv d w')) ∨ (Hid (bs.length < i + n) ∧ e = .panicked wrongW ∧ Hid (RdW R w w')) := by
  refine (rnum_q R b o C i n bs wr X.by' h.rd hn0 hn8 h.bya X.ne).mono ?_
  rintro e w' (⟨h1, rfl, hr, ho⟩ | ⟨h1, rfl, rfl⟩)
  · exact Or.inl ⟨rfl, Lib.hid (h.read X.hR X.hb X.ne ho.rdW hr)⟩
  · exact Or.inr ⟨Lib.hid h1, rfl, Lib.hid h.rdw⟩
theorem num1_gm (X : RX w bs R b) (h : GM w bs R b o C i m iv ni lv nl dv d wr) (j : Nat) (hj : i + 1 = j) :
    Calls Try.prog 42 #[.pointer (some ⟨R, 0, none⟩), .int .i64 1] wr fun e w' => (e = .returned (.int .u64 (zz bs i)) ∧ Hid (GM w bs R b o C j m iv ni lv nl dv d w')) ∨ (Hid (bs.length < j) ∧ e = .panicked wrongW ∧ Hid (RdW R w w')) := by
  subst hj
  rw [← leV1]
  exact num_gm X h 1 (by omega) (by omega)
theorem part_gm (X : RX w bs R b) (has : Bool) (h p v : Int) (n q : Nat) (hg : GM w bs R b o C i m iv ni lv nl dv d wr) (hh : (bits .and .i64 h p == 0) = !has) (hn0 : 0 < n) (hn4 : n ≤ 4) (hq : q = i + (if has then n else 0)) (hv : v = if has then leV bs i n else 0) :
    Calls Try.prog 58 #[.pointer (some ⟨R, 0, none⟩), .int .i64 h, .int .i64 p, .int .i64 (n : Int)] wr fun e w' => (e = .returned (.int .i64 v) ∧ Hid (GM w bs R b o C q m iv ni lv nl dv d w')) ∨ (Hid (bs.length < q) ∧ e = .panicked wrongW ∧ Hid (RdW R w w')) := by
  subst hq hv
  refine (rpart_q R b o C i n bs has h p hh wr X.by' hg.rd hn0 hn4 hg.bya X.ne).mono ?_
  rintro e w' (⟨h1, rfl, hr, ho⟩ | ⟨h1, rfl, rfl⟩)
  · exact Or.inl ⟨rfl, Lib.hid (hg.read X.hR X.hb X.ne ho.rdW hr)⟩
  · exact Or.inr ⟨Lib.hid h1, rfl, Lib.hid hg.rdw⟩
end
theorem log_gm {w wr : World} {bs : List Int} {R b o C m ni nl : Nat} {iv lv dv : Value} {d : List Int} (X : RX w bs R b) (h : GM w bs R b o C (gQe bs nl) m iv ni lv nl dv d wr) (hnl : nl < gNl bs) :
    Calls Try.prog 59 #[.pointer (some ⟨R, 0, none⟩)] wr fun e w' => (∃ sv, e = .returned (.agg (entL (gD bs nl).fr sv (gD bs nl).I).toArray) ∧ Hid (GM w bs R b o C (gQe bs (nl + 1)) m iv ni lv nl dv d w') ∧ Hid (OwnE w' (w.heap.size + 2) sv (gD bs nl).n (gD bs nl).E) ∧ Hid (∀ g, sv.ownBlock = some g → lv.ownBlock ≠ some g) ∧ Hid (OkG (eBy bs (gQe bs nl)))) ∨
      (Hid (¬ POk bs) ∧ e = .panicked wrongW ∧ Hid (RdW R w w')) := by
  have hlt := h.lt
  have hR := X.hR
  have hb := X.hb
  refine (log_any R b o C (gQe bs nl) bs wr X.by' h.rd h.bya (by omega) X.ne).mono ?_
  rintro e w' (⟨h1, hok, ⟨sv, rfl, hO⟩, hr, hd⟩ | ⟨h1, rfl, hd⟩)
  · refine Or.inl ⟨sv, rfl, Lib.hid (h.read X.hR X.hb X.ne hd hr), Lib.hid (hO.mono (by omega)), Lib.hid (fun g hg e => ?_), Lib.hid hok⟩
    obtain ⟨S, hrow, -⟩ := h.ol.ex
    have h2 := (World.ownsRow.lt hO g hg).1
    have h3 := (World.ownsRow.lt hrow g e).2
    omega
  · exact Or.inr ⟨Lib.hid (not_pok_log hnl h1), rfl, Lib.hid (h.rdw.trans hd)⟩
theorem raw_gm {w wr : World} {bs : List Int} {R b o C m ni nl : Nat} {iv lv dv : Value} {d : List Int} (X : RX w bs R b) (h : GM w bs R b o C (gQt bs) m iv ni lv nl dv d wr) :
    Calls Try.prog 57 #[.pointer (some ⟨R, 0, none⟩), .int .i64 (gNd bs : Int)] wr fun e w' => (∃ ad, e = .returned (.slice (some ad) (gNd bs) (C - gQt bs)) ∧ Hid (gEnd bs ≤ bs.length) ∧ Hid (GM w bs R b o C (gEnd bs) m iv ni lv nl dv d w') ∧ Hid ((gDt bs).length = gNd bs) ∧ Hid (∀ j u, (bv (gDt bs))[j]? = some u → w'.cell? (ad.add j) = some u)) ∨
      (Hid (¬ POk bs) ∧ e = .panicked wrongW ∧ Hid (RdW R w w')) := by
  have hlt := h.lt
  have hb := X.hb
  by_cases hn : gQt bs + gNd bs ≤ bs.length
  · refine (raw_any R b o _ C (gQt bs) (gNd bs) wr h.rd hn).mono ?_
    rintro e w' ⟨ad, rfl, had, hr, ho⟩
    have hG := h.read X.hR X.hb X.ne ho.rdW hr
    have hl : (gDt bs).length = gNd bs := by unfold gDt; rw [List.length_take, List.length_drop]; omega
    refine Or.inl ⟨ad, rfl, Lib.hid hn, Lib.hid hG, Lib.hid hl, Lib.hid (fun j u hj => ?_)⟩
    have hjl : j < gNd bs := by have := (List.getElem?_eq_some_iff.1 hj).1; rwa [bv_len, hl] at this
    rw [had (by omega), Addr.add_lit]
    have hc := hG.bya (gQt bs + j) (by omega)
    rw [show o + gQt bs + j = o + (gQt bs + j) by omega, hc, ← hj]
    unfold bv gDt
    rw [List.getElem?_map, List.getElem?_take, if_pos hjl, List.getElem?_drop, List.getElem?_eq_getElem (by omega), List.getD_eq_getElem?_getD, List.getElem?_eq_getElem (by omega)]
    rfl
  · refine (raw_end R b o _ C (gQt bs) (gNd bs) wr h.rd (by omega)).mono ?_
    rintro e w' ⟨rfl, rfl⟩
    exact Or.inr ⟨Lib.hid (not_pok_end (show bs.length < gQt bs + gNd bs by omega)), rfl, Lib.hid h.rdw⟩
theorem OwnI.mono {w : World} {B B' n : Nat} {v : Value} {I : Nat → Int} (h : OwnI w B v n I) (hb : B' ≤ B) : OwnI w B' v n I := by
  refine ⟨h.1, ?_⟩
  rcases h.2 with hn | ⟨g, cap, cur, h1, h2, h3⟩
  · exact Or.inl hn
  · exact Or.inr ⟨g, cap, cur, h1, by omega, h3⟩
theorem OwnL.mono {w : World} {B B' n : Nat} {v : Value} {D : Nat → Ent} (h : OwnL w B v n D) (hb : B' ≤ B) : OwnL w B' v n D := by
  obtain ⟨S, h1, h2⟩ := h.ex
  refine ⟨S, ⟨h1.1, ?_⟩, fun i hi => ⟨(h2 i hi).1.mono hb, (h2 i hi).2⟩⟩
  rcases h1.2 with hn | ⟨g, cap, cur, h3, h4, h5⟩
  · exact Or.inl hn
  · exact Or.inr ⟨g, cap, cur, h3, by omega, h5⟩
theorem gm_end {w wr : World} {bs : List Int} {R b o C i m ni nl : Nat} {iv lv dv : Value} {d : List Int} (h : GM w bs R b o C i m iv ni lv nl dv d wr) (F : Nat → Int) :
    MsgAt (wr.setCells w.heap.size 0 (msgL F iv lv dv)) w.heap.size F iv lv dv ∧ OwnI (wr.setCells w.heap.size 0 (msgL F iv lv dv)) w.heap.size iv ni (gIn bs) ∧ OwnL (wr.setCells w.heap.size 0 (msgL F iv lv dv)) w.heap.size lv nl (gD bs) ∧ OwnB (wr.setCells w.heap.size 0 (msgL F iv lv dv)) w.heap.size dv d ∧ RdW R w (wr.setCells w.heap.size 0 (msgL F iv lv dv)) := by
  have hb := below_setCells (B := w.heap.size) w.heap.size (Nat.le_refl _) (msgL F iv lv dv) 0 (Below.refl w.heap.size wr)
  have hO : RdW w.heap.size wr (wr.setCells w.heap.size 0 (msgL F iv lv dv)) := ⟨hb.os, hb.tape, hb.output, hb.size, fun k hk hne => setCells_other w.heap.size k hne _ 0 wr⟩
  exact ⟨msgAt_stored h.th2 F iv lv dv, (h.oi.rdW hO (by omega)).mono (by omega), (h.ol.rdW hO (by omega)).mono (by omega), (h.od.rdW hO (by omega)).mono (by omega), rdW_setCells h.rdw w.heap.size (Nat.le_refl _) _⟩
/-- A row of one entry, laid in a region that draws its order. -/
theorem step_bs_ent {ops : Array Oper} {op : Oper} {a : Act} {w : World} {K : Act → World → Prop} {Q : Exit → Act → World → Prop} {E' : Prop} (hg : op.guard = none) (p : Operand) (ho : op.op = Op.buildSlice 27 1 #[(0, p)]) (fr : Int) (sv : Value) (I : Nat → Int) (hp : a.eval p = .agg (entL fr sv I).toArray)
    (h : K (a.put op.dst (.slice (some ⟨w.heap.size, 0, none⟩) 1 1)) (w.alloc (Obj.cells (entL fr sv I).toArray 37))) :
    if Region.wanted op (yielded ops a.tmps) = true then Oper.wp Try.prog op a w K Q else E' := by
  have hwn : Region.wanted op (yielded ops a.tmps) = true := by simp [Region.wanted, hg]
  rw [if_pos hwn]
  have e : (Array.map (fun x => (x.fst, a.eval x.snd)) #[(0, p)] : Array (Nat × Value)) = #[(0, .agg (entL fr sv I).toArray)] := by simp [hp]
  unfold Oper.wp
  simp only [execOp, ho]
  rw [e, Sem.run_bind, bs_ent]
  exact h
theorem msgq_bad {bs : List Int} {R : Nat} {w w' : World} (h : ¬ POk bs) (hr : Hid (RdW R w w')) : MsgQ bs R w (.panicked [{ v := .iface 76 (.agg #[]), recovered := false }]) w' := Or.inr ⟨h, rfl, hr.out⟩
end Go.Proofs.Ytembppihfcclcaa
