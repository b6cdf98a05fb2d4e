/-
  Queue: the contracts of a queue's methods.
-/
import Derived.Test.YtabgooglfgioiaaB
import Derived.RegionTactic
import Derived.ChangeAlike
import Derived.StillTailTactics
namespace Go.Proofs.Ytabgooglfgioiaa
set_option linter.unusedVariables false
open Go.ChangeShapes Go.WideShapes Go.ChangeAt Go.RowKit

theorem zero24 (w : World) : (zeroValue 24).run Try.prog w = .ok (.agg #[.int .i8 0, .int .i8 0, .int .u8 0]) w := by kernel_rfl

def wf64 (x : Int) : Prop := (Lit.int .i64 x).wf = true
theorem wf64_of {x : Int} (h0 : -9223372036854775808 ≤ x) (h1 : x ≤ 9223372036854775807) : wf64 x := by
  unfold wf64; simp [Lit.wf, IntKind.bits, IntKind.signed, IntKind.min, IntKind.max]; omega

/-- What a look-up gives in each world in which the map's block is as in w. -/
def Looks (w : World) (M : Nat) (x : Int) (v : Value) (is : Bool) : Prop :=
  ∀ W : World, W.heap[M]? = w.heap[M]? → (Instr.lookup 48 (.map (some M)) (.int .i64 x) true).run Try.prog W = .ok (.tuple #[v, .bool is]) W
theorem MapAt.looks {w : World} {M n : Nat} {g : Int → Option Value} (h : MapAt Try.prog 3 w M n g) {x : Int} (hx : wf64 x) : Looks w M x ((g x).getD (.agg #[.int .i8 0, .int .i8 0, .int .u8 0])) (g x).isSome := fun W hW =>
  (h.block hW).look Try.underlying3 Try.underlying48 (zero24 W) x hx

theorem heap_drew (w : World) : w.drew.heap = w.heap := rfl
theorem heap_drewN (w : World) (n : Nat) : (w.drewN n).heap = w.heap := rfl
theorem wpList_lookup_looks {w W : World} {ops : Array Oper} {rest : List Oper} {o : Oper} {a : Act} {Q : Exit → Act → World → Prop}
    (hg : o.guard = none) (m x : Operand) (hop : o.op = Op.lookup 48 m x true) (M : Nat) (kx : Int) (v : Value) (is : Bool) (hl : Looks w M kx v is) (hW : W.heap[M]? = w.heap[M]?)
    (hm : a.eval m = .map (some M)) (hx : a.eval x = .int .i64 kx) (hK : wpList Try.prog ops Q rest (a.put o.dst (.tuple #[v, .bool is])) W) :
    wpList Try.prog ops Q (o :: rest) a W := by
  refine wpList_plain hg fun K' hK' => ?_
  have hrun := hl W hW
  unfold Oper.wp
  simp [execOp, hop, hm, hx, hrun, Result.andThen]
  exact hK' _ _ hK

theorem from_any (b : Nat) (f : Int) (w : World) (c0 : w.cell? ⟨b, 0, none⟩ = some (.int .i64 f)) :
    Calls Try.prog 12 #[.pointer (some ⟨b, 0, none⟩)] w fun e w' => e = .returned (.int .i64 f) ∧ w = w' := by
  go_enter Try.func12, Try.ntmps12
  go_wp2
  go_ret
  exact ⟨rfl, rfl⟩

set_option maxHeartbeats 1000000 in
theorem put_no1 (b M n : Nat) (f x y z : Int) (g : Int → Option Value) (fr i j k : Int) (w : World) (h : QAt w b M n f x y z g) (hm : (decide (-127 ≤ i) && decide (-127 ≤ j)) = false) :
    Calls Try.prog 10 #[.pointer (some ⟨b, 0, none⟩), .int .i64 fr, .agg #[.int .i8 i, .int .i8 j, .int .u8 k]] w fun e w' => e = .returned (.bool false) ∧ Below w.heap.size w w' := by
  go_enter Try.func10, Try.ntmps10
  go_wp2_with (go_at_call 20; refine (may_any _ _ _ _).mono ?_; rintro e w' ⟨rfl, rfl⟩; rw [hm])
  go_ret
  refine ⟨rfl, ?_⟩
  exact ((Below.refl _ _).alloc (Nat.le_refl _) _).alloc (by simp) _
set_option maxHeartbeats 1000000 in
theorem put_no2 (b M n : Nat) (f x y z : Int) (g : Int → Option Value) (fr i j k : Int) (w : World) (h : QAt w b M n f x y z g) (hm : (decide (-127 ≤ i) && decide (-127 ≤ j)) = true) (f0 : 0 ≤ f) (f1 : f ≤ 1000000) (h0 : -9223372036854775808 ≤ fr) (h1 : fr ≤ 9223372036854775807) (hn : nearB f fr = false) :
    Calls Try.prog 10 #[.pointer (some ⟨b, 0, none⟩), .int .i64 fr, .agg #[.int .i8 i, .int .i8 j, .int .u8 k]] w fun e w' => e = .returned (.bool false) ∧ Below w.heap.size w w' := by
  have c0 := h.c0
  have hb := cell_lt c0
  go_enter Try.func10, Try.ntmps10
  go_wp2_with (first | (go_at_call 20; refine (may_any _ _ _ _).mono ?_; rintro e w' ⟨rfl, rfl⟩; rw [hm]) | (go_at_call 19; refine (near_any b f fr _ (by go_simp) f0 f1 h0 h1).mono ?_; rintro e w' ⟨rfl, rfl⟩; rw [hn]))
  go_ret
  refine ⟨rfl, ?_⟩
  exact ((Below.refl _ _).alloc (Nat.le_refl _) _).alloc (by simp) _
set_option maxHeartbeats 1000000 in
theorem put_no3 (b M n : Nat) (f x y z : Int) (g : Int → Option Value) (fr i j k : Int) (w : World) (h : QAt w b M n f x y z g) (hm : (decide (-127 ≤ i) && decide (-127 ≤ j)) = true) (f0 : 0 ≤ f) (f1 : f ≤ 1000000) (h0 : -9223372036854775808 ≤ fr) (h1 : fr ≤ 9223372036854775807) (hn : nearB f fr = true) (vx vy vz : Int) (hg : g fr = some (inV vx vy vz)) :
    Calls Try.prog 10 #[.pointer (some ⟨b, 0, none⟩), .int .i64 fr, .agg #[.int .i8 i, .int .i8 j, .int .u8 k]] w fun e w' => e = .returned (.bool false) ∧ Below w.heap.size w w' := by
  have c0 := h.c0
  have c4 := h.c4
  have hb := cell_lt c0
  have hM := h.map.lt
  have hl := h.map.looks (wf64_of h0 h1)
  rw [hg] at hl
  unfold inV at hl
  simp only [Option.getD_some, Option.isSome_some] at hl
  go_enter Try.func10, Try.ntmps10
  go_wp2_with (first | (go_at_call 20; refine (may_any _ _ _ _).mono ?_; rintro e w' ⟨rfl, rfl⟩; rw [hm]) | (go_at_call 19; refine (near_any b f fr _ (by go_simp) f0 f1 h0 h1).mono ?_; rintro e w' ⟨rfl, rfl⟩; rw [hn]) | (at_lookup; refine wpList_lookup_looks rfl _ _ rfl M fr _ _ hl (((Kept.refl (fun _ => False) w).alloc _ |>.alloc _).block M hM (by simp)) rfl rfl ?_))
  go_ret
  refine ⟨rfl, ?_⟩
  exact (((Below.refl _ _).alloc (Nat.le_refl _) _).alloc (by simp) _).alloc (by simp; omega) _

theorem wpList_store_map {W : World} {ops : Array Oper} {rest : List Oper} {o : Oper} {a : Act} {Q : Exit → Act → World → Prop} {M n : Nat} {g : Int → Option Value}
    (hg : o.guard = none) (m x v : Operand) (hop : o.op = Op.mapUpdate 48 m x v) (hown : MapAt Try.prog 3 W M n g) (hn : n < maxLen) (kx : Int) (hw : wf64 kx) (u : Value)
    (hm : a.eval m = .map (some M)) (hx : a.eval x = .int .i64 kx) (hv : a.eval v = u) (hK : ∀ W', MapAt Try.prog 3 W' M (n + 1) (updM g kx (some u)) → W.grownBy W' (some M) → wpList Try.prog ops Q rest (a.put o.dst undef) W') :
    wpList Try.prog ops Q (o :: rest) a W := by
  refine wpList_plain hg fun K' hK' => ?_
  obtain ⟨W', hrun, h1, h2⟩ := hown.store Try.underlying3 Try.underlying48 hn kx hw u
  unfold Oper.wp
  simp [execOp, hop, hm, hx, hv, hrun, Result.andThen]
  exact hK' _ _ (hK W' h1 h2)
theorem wpList_drop_map {W : World} {ops : Array Oper} {rest : List Oper} {o : Oper} {a : Act} {Q : Exit → Act → World → Prop} {M n : Nat} {g : Int → Option Value}
    (hg : o.guard = none) (m x : Operand) (hop : o.op = Op.call { callee := Callee.builtin Builtin.delete, args := #[m, x], argTypes := #[48, 3] }) (hown : MapAt Try.prog 3 W M n g) (kx : Int) (hw : wf64 kx)
    (hm : a.eval m = .map (some M)) (hx : a.eval x = .int .i64 kx) (hK : ∀ W', MapAt Try.prog 3 W' M n (updM g kx none) → W.grownBy W' (some M) → wpList Try.prog ops Q rest (a.put o.dst (.tuple #[])) W') :
    wpList Try.prog ops Q (o :: rest) a W := by
  refine wpList_plain hg fun K' hK' => ?_
  obtain ⟨W', hrun, h1, h2⟩ := hown.drop Try.underlying3 Try.underlying48 kx hw o.type
  unfold Oper.wp
  simp [execOp, hop, resolve, invoke, builtin, hm, hx, hrun, Result.andThen]
  exact hK' _ _ (hK W' h1 h2)

theorem QAt.only {w w' : World} {b M n n' : Nat} {f x y z : Int} {g g' : Int → Option Value} (h : QAt w b M n f x y z g) (k : w.grownBy w' (some M)) (hm : MapAt Try.prog 3 w' M n' g') (hv : Ins g') : QAt w' b M n' f x y z g' := by
  have e := k.block b (cell_lt h.c0) (fun e => h.ne (by injection e))
  exact ⟨(World.cell?_of_block e).trans h.c0, (World.cell?_of_block e).trans h.c1, (World.cell?_of_block e).trans h.c2, (World.cell?_of_block e).trans h.c3, (World.cell?_of_block e).trans h.c4,
    (World.frozen?_of_block e).trans h.f0, (World.frozen?_of_block e).trans h.f1, (World.frozen?_of_block e).trans h.f2, (World.frozen?_of_block e).trans h.f3, (World.frozen?_of_block e).trans h.f4, hm, h.ne, hv⟩
theorem QAt.kept {w w' : World} {b M n : Nat} {f x y z : Int} {g : Int → Option Value} {S : Nat → Prop} (h : QAt w b M n f x y z g) (k : Kept S w w') (hb : ¬ S b) (hM : ¬ S M) : QAt w' b M n f x y z g := by
  have e := k.block b (cell_lt h.c0) hb
  exact ⟨(World.cell?_of_block e).trans h.c0, (World.cell?_of_block e).trans h.c1, (World.cell?_of_block e).trans h.c2, (World.cell?_of_block e).trans h.c3, (World.cell?_of_block e).trans h.c4,
    (World.frozen?_of_block e).trans h.f0, (World.frozen?_of_block e).trans h.f1, (World.frozen?_of_block e).trans h.f2, (World.frozen?_of_block e).trans h.f3, (World.frozen?_of_block e).trans h.f4, h.map.block (k.block M h.map.lt hM), h.ne, h.vals⟩

theorem region_tail {P : Program} {id : Nat} {Q : Exit → Act → World → Prop} {a : Act} {w : World} {l : List Oper} (n : Nat) (hm : P.follows .mixedOrders = true) (hB : Region.lexTailB .any l.toArray n = true)
    (h : wpStill P l.toArray w.drew (fun a' => wpList P l.toArray Q (l.drop n) a' w.drew) (l.take n) a) : (Code.region id l.toArray true).wp P Q a w := wp_region_still_tail n hm hB h

set_option maxHeartbeats 1000000 in
theorem put_yes (b M n : Nat) (f x y z : Int) (g : Int → Option Value) (fr i j k : Int) (w : World) (h : QAt w b M n f x y z g) (hm : (decide (-127 ≤ i) && decide (-127 ≤ j)) = true) (f0 : 0 ≤ f) (f1 : f ≤ 1000000) (h0 : -9223372036854775808 ≤ fr) (h1 : fr ≤ 9223372036854775807) (hn : nearB f fr = true) (hg : g fr = none) (hnm : n < maxLen) :
    Calls Try.prog 10 #[.pointer (some ⟨b, 0, none⟩), .int .i64 fr, .agg #[.int .i8 i, .int .i8 j, .int .u8 k]] w fun e w' => e = .returned (.bool true) ∧ QAt w' b M (n + 1) f x y z (updM g fr (some (inV i j k))) ∧ Kept (fun k => k = M) w w' := by
  have c0 := h.c0
  have c4 := h.c4
  have hb := cell_lt c0
  have hM := h.map.lt
  have hl := h.map.looks (wf64_of h0 h1)
  rw [hg] at hl
  simp only [Option.getD_none, Option.isSome_none] at hl
  go_enter Try.func10, Try.ntmps10
  go_wp2_with (first | (go_at_call 20; refine (may_any _ _ _ _).mono ?_; rintro e w' ⟨rfl, rfl⟩; rw [hm]) | (go_at_call 19; refine (near_any b f fr _ (by go_simp) f0 f1 h0 h1).mono ?_; rintro e w' ⟨rfl, rfl⟩; rw [hn]) | (at_lookup; refine wpList_lookup_looks rfl _ _ rfl M fr _ _ hl (((Kept.refl (fun _ => False) w).alloc _ |>.alloc _).block M hM (by simp)) rfl rfl ?_))
  refine region_tail 6 (by kernel_rfl) (by kernel_rfl) ?_
  have hk := ((Kept.refl (fun k => k = M) w).alloc (Obj.cells #[.int .i8 i, .int .i8 j, .int .u8 k] 24) |>.alloc (Obj.cells #[.int .i8 i, .int .i8 j, .int .u8 k] 24) |>.alloc (Obj.cells #[.int .i8 0, .int .i8 0, .int .u8 0] 24) |>.drew)
  have hk0 := ((Kept.refl (fun _ => False) w).alloc (Obj.cells #[.int .i8 i, .int .i8 j, .int .u8 k] 24) |>.alloc (Obj.cells #[.int .i8 i, .int .i8 j, .int .u8 k] 24) |>.alloc (Obj.cells #[.int .i8 0, .int .i8 0, .int .u8 0] 24) |>.drew)
  have b0 : (((w.alloc (Obj.cells #[.int .i8 i, .int .i8 j, .int .u8 k] 24)).alloc (Obj.cells #[.int .i8 i, .int .i8 j, .int .u8 k] 24)).alloc (Obj.cells #[.int .i8 0, .int .i8 0, .int .u8 0] 24)).drew.cell? ⟨w.heap.size, 0, none⟩ = some (.int .i8 i) := by go_simp
  have b1 : (((w.alloc (Obj.cells #[.int .i8 i, .int .i8 j, .int .u8 k] 24)).alloc (Obj.cells #[.int .i8 i, .int .i8 j, .int .u8 k] 24)).alloc (Obj.cells #[.int .i8 0, .int .i8 0, .int .u8 0] 24)).drew.cell? ⟨w.heap.size, 1, none⟩ = some (.int .i8 j) := by go_simp
  have b2 : (((w.alloc (Obj.cells #[.int .i8 i, .int .i8 j, .int .u8 k] 24)).alloc (Obj.cells #[.int .i8 i, .int .i8 j, .int .u8 k] 24)).alloc (Obj.cells #[.int .i8 0, .int .i8 0, .int .u8 0] 24)).drew.cell? ⟨w.heap.size, 2, none⟩ = some (.int .u8 k) := by go_simp
  generalize (World.drew _) = w2 at hk hk0 b0 b1 b2 ⊢
  have hq := h.kept hk0 (by simp) (by simp)
  have d4 := hq.c4
  clear c0 c4 hb hM hl h hm
  simp only [List.take_succ_cons, List.take_zero, List.drop_succ_cons, List.drop_zero]
  repeat still_step
  refine wpStill_nil ?_
  refine wpList_store_map rfl _ _ _ rfl hq.map hnm fr (wf64_of h0 h1) (inV i j k) rfl rfl rfl ?_
  intro W' hm' hgr
  have hfin := And.intro (hq.only hgr hm' (hq.vals.upd fr i j k)) (hk.grown hgr (Or.inl rfl))
  have HF := Lib.hid hfin
  clear hfin hm' hgr hq hk hk0
  go_wp2
  go_ret
  exact ⟨rfl, HF.out⟩
end Go.Proofs.Ytabgooglfgioiaa
