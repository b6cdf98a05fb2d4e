/-
  Entry: rows of entries of the call's own; the region of EntryFront that draws its order.
-/
import Derived.Test.YtmhgkkfeohaojaaS
import Derived.Deep.RegionHeld
import Derived.Laws.AppendOwnNone
namespace Go.Proofs.Ytmhgkkfeohaojaa
set_option linter.unusedVariables false
open Go.ChangeShapes Go.WideShapes Go.ChangeAt Go.RowKit

set_option linter.unusedSimpArgs false
def rowL (D : Nat → Ent) (SV : Nat → Value) : Nat → List Value
  | 0 => []
  | k + 1 => rowL D SV k ++ entL (D k).fr (SV k) (D k).I
theorem rowL_len (D : Nat → Ent) (SV : Nat → Value) : ∀ k, (rowL D SV k).length = k * 26
  | 0 => rfl
  | k + 1 => by unfold rowL; rw [List.length_append, rowL_len D SV k, entL_len]; omega
theorem rowL_get (D : Nat → Ent) (SV : Nat → Value) (j : Nat) (hj : j < 26) : ∀ k i, i < k → (rowL D SV k)[i * 26 + j]? = some (entF (D i).fr (SV i) (D i).I j)
  | 0, i, h => by omega
  | k + 1, i, h => by
    unfold rowL
    by_cases e : i = k
    · subst e
      rw [List.getElem?_append_right (by rw [rowL_len]; omega), rowL_len, show i * 26 + j - i * 26 = j by omega]
      exact entL_get _ _ _ _ hj
    · rw [List.getElem?_append_left (by rw [rowL_len]; omega)]
      exact rowL_get D SV j hj k i (by omega)
def OwnD (w : World) (B : Nat) (v : Value) (k : Nat) (D : Nat → Ent) (SV : Nat → Value) : Prop := w.ownsRow B 28 26 v k (rowL D SV k)
theorem infoEnt : (Try.prog.info? 28).map (fun i => (i.zero, i.size, i.bytes)) = some (some (.agg (entL 0 (.slice none 0 0) (fun _ => 0)).toArray), 26, 56) := by kernel_rfl
theorem rowL_one (D : Nat → Ent) (SV : Nat → Value) (hs : ∀ i, ∃ a n c, SV i = .slice a n c) : ∀ k, ∀ u ∈ rowL D SV k, u.oneCell' = true
  | 0, u, h => by cases h
  | k + 1, u, h => by
    unfold rowL at h
    rcases List.mem_append.1 h with h | h
    · exact rowL_one D SV hs k u h
    · obtain ⟨a, n, c, e⟩ := hs k
      rw [e] at h
      unfold entL at h
      rw [List.mem_map] at h
      obtain ⟨j, -, rfl⟩ := h
      exact entF_one _ _ _ _ _ _
theorem zcells : (Value.agg (entL 0 (.slice none 0 0) (fun _ => 0)).toArray).cells.size = 26 := by kernel_rfl
/-- A row of entries appended to an empty row of the call's own. -/
theorem step_ents1 {op : Oper} {a : Act} {w : World} {K : Act → World → Prop} {Q : Exit → Act → World → Prop} (s x : Operand) (ho : op.op = Op.call { callee := Callee.builtin Builtin.append, args := #[s, x], argTypes := #[45, 45] })
    (B : Nat) (v : Value) (D : Nat → Ent) (SV : Nat → Value) (hsl : ∀ i, ∃ a n c, SV i = .slice a n c) (hown : OwnD w B v 0 D SV) (hs : a.eval s = v) (ad : Option Addr) (k c : Nat) (hk : k ≤ 20) (hx : a.eval x = .slice ad k c) (hnone : ad = none → k = 0 ∧ c = 0)
    (hcell : 0 < k → ∃ b o, ad = some ⟨b, o, none⟩ ∧ ∀ i, i < k → EntAt w b (o + i * 26) (D i).fr (SV i) (D i).I) (hB : B ≤ w.heap.size)
    (h : ∀ v' w', OwnD w' B v' k D SV → w.grownBy w' v.ownBlock → K (a.put op.dst v') w') : Oper.wp Try.prog op a w K Q := by
  obtain ⟨i0, hi, hz0, hz1, hz2⟩ := info_parts infoEnt
  cases ad with
  | none =>
    obtain ⟨rfl, rfl⟩ := hnone rfl
    have hrun := run_append_owned_none (P := Try.prog) (w := w) B 45 op.type 28 i0 26 Try.underlying45 hi v 0 (rowL D SV 0) hown
    unfold Oper.wp
    simp [execOp, ho, resolve, invoke, builtin, hs, hx, hrun, Result.andThen]
    exact h v w hown ⟨rfl, rfl, rfl, Nat.le_refl _, fun _ _ _ => rfl⟩
  | some ad =>
    refine wp_append_own w s x 45 ho B 28 i0 _ 26 56 Try.underlying45 hi hz0 hz1 hz2 zcells (by decide) v 0 (rowL D SV 0) hs hown ad k c (rowL D SV k) hx (rowL_len D SV k) ?_ (rowL_one D SV hsl k) (by unfold maxLen; omega) (by omega) hB ?_
    · intro j u hu
      have hj : j < k * 26 := by have := (List.getElem?_eq_some_iff.1 hu).1; rwa [rowL_len] at this
      obtain ⟨b, o, e, hc⟩ := hcell (by omega)
      injection e with e
      subst e
      rw [Go.WideShapes.add_plain]
      have h1 := rowL_get D SV (j % 26) (by omega) k (j / 26) (by omega)
      rw [show j / 26 * 26 + j % 26 = j by omega] at h1
      rw [h1] at hu
      rw [← hu]
      have := (hc (j / 26) (by omega)).cell (j % 26) (by omega)
      rw [← this]
      congr 2
      omega
    · intro v' w' h1 h2 _
      rw [Nat.zero_add] at h1
      exact h v' w' h1 h2
/-- One entry more. -/
theorem step_ents2 {op : Oper} {a : Act} {w : World} {K : Act → World → Prop} {Q : Exit → Act → World → Prop} (s x : Operand) (ho : op.op = Op.call { callee := Callee.builtin Builtin.append, args := #[s, x], argTypes := #[45, 45] })
    (B : Nat) (v : Value) (D : Nat → Ent) (SV : Nat → Value) (hsl : ∀ i, ∃ a n c, SV i = .slice a n c) (k : Nat) (hk : k ≤ 20) (hown : OwnD w B v k D SV) (hs : a.eval s = v) (b : Nat) (hx : a.eval x = .slice (some ⟨b, 0, none⟩) 1 1)
    (hcell : EntAt w b 0 (D k).fr (SV k) (D k).I) (hB : B ≤ w.heap.size)
    (h : ∀ v' w', OwnD w' B v' (k + 1) D SV → w.grownBy w' v.ownBlock → K (a.put op.dst v') w') : Oper.wp Try.prog op a w K Q := by
  obtain ⟨i0, hi, hz0, hz1, hz2⟩ := info_parts infoEnt
  refine wp_append_own w s x 45 ho B 28 i0 _ 26 56 Try.underlying45 hi hz0 hz1 hz2 zcells (by decide) v k (rowL D SV k) hs hown ⟨b, 0, none⟩ 1 1 (entL (D k).fr (SV k) (D k).I) hx (by rw [entL_len]) ?_ ?_ (by unfold maxLen; omega) (by omega) hB ?_
  · intro j u hu
    have hj : j < 26 := by have := (List.getElem?_eq_some_iff.1 hu).1; rwa [entL_len] at this
    rw [Go.WideShapes.add_plain, hcell.cell j hj, ← hu, entL_get _ _ _ _ hj]
  · intro u hu
    exact rowL_one D SV hsl (k + 1) u (by unfold rowL; exact List.mem_append.2 (Or.inr hu))
  · intro v' w' h1 h2 _
    exact h v' w' h1 h2
theorem OwnD.ents {w : World} {B k : Nat} {v : Value} {D : Nat → Ent} {SV : Nat → Value} (h : OwnD w B v k D SV) (hk : 0 < k) (he : ∀ i, i < k → EvsV w (SV i) (D i).n (D i).E) : EntsV w v k D := by
  have h' := h
  rcases h.2 with ⟨-, h0⟩ | ⟨g, cap, cur, rfl, hb, hg, h1, h2, -⟩
  · omega
  · refine ⟨_, cap, rfl, h1, h2, fun _ => ⟨g, 0, rfl, (Array.getElem?_eq_some_iff.1 hg).1, fun i hi => ⟨SV i, ⟨fun j hj => ?_⟩, he i hi⟩⟩⟩
    have := World.ownsRow.cells h' (g := g) rfl (i * 26 + j) _ (rowL_get D SV j hj k i hi)
    rw [Go.WideShapes.add_plain] at this
    rw [Nat.zero_add] at this ⊢
    exact this
end Go.Proofs.Ytmhgkkfeohaojaa
