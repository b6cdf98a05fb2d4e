/-
  Link: Hear's closure.
-/
import Derived.Test.YtfadaakogpbgfaaH
namespace Go.Proofs.Ytfadaakogpbgfaa
set_option linter.unusedVariables false
open Go.Shelf Go.RowKit Go.Lib Go.Sort

theorem gives23 (x a k : Int) (B1 B2 : Nat) (W : World) (hc1 : W.cell? ⟨B1, 0, none⟩ = some (.int .u16 a)) (hc2 : W.cell? ⟨B2, 0, none⟩ = some (.int .u32 k)) :
    FnGives Try.prog 23 #[.pointer (some ⟨B1, 0, none⟩), .pointer (some ⟨B2, 0, none⟩)] #[.int .u16 x] (.bool (toldF x a k)) W := by
  show Calls Try.prog 23 #[.int .u16 x, .pointer (some ⟨B1, 0, none⟩), .pointer (some ⟨B2, 0, none⟩)] W _
  go_enter Try.func23, Try.ntmps23
  go_wp2_with (go_at_call 24; refine (told_any _ _ _ _).mono ?_; rintro e w' ⟨rfl, rfl⟩)
  all_goals (go_ret; exact ⟨by simp_all, 0, rfl⟩)
theorem pred23 (a k : Int) (B1 B2 : Nat) (w : World) (h1 : B1 < w.heap.size) (h2 : B2 < w.heap.size) (c1 : w.cell? ⟨B1, 0, none⟩ = some (.int .u16 a)) (c2 : w.cell? ⟨B2, 0, none⟩ = some (.int .u32 k)) :
    PredAt Try.prog 23 #[.pointer (some ⟨B1, 0, none⟩), .pointer (some ⟨B2, 0, none⟩)] (Value.int .u16) (fun x => toldF x a k) w :=
  fun W x hb => gives23 x a k B1 B2 W ((hb.cell (p := ⟨B1, 0, none⟩) h1).trans c1) ((hb.cell (p := ⟨B2, 0, none⟩) h2).trans c2)
theorem over23 (a k : Int) (B1 B2 blk off size : Nat) (w : World) (h1 : B1 < w.heap.size) (h2 : B2 < w.heap.size) (n1 : B1 ≠ blk) (n2 : B2 ≠ blk) (c1 : w.cell? ⟨B1, 0, none⟩ = some (.int .u16 a)) (c2 : w.cell? ⟨B2, 0, none⟩ = some (.int .u32 k)) :
    PredOver Try.prog 23 #[.pointer (some ⟨B1, 0, none⟩), .pointer (some ⟨B2, 0, none⟩)] (Value.int .u16) (fun x => toldF x a k) blk off size w :=
  fun n os dk x _ => gives23 x a k B1 B2 _ (by
    unfold sortWorld
    rw [cell?_grow _ _ _ (by show B1 < (putRow _ _ _ _ _).heap.size; rw [size_putRow]; exact h1), cell?_putRow_other _ _ blk off _ _ (Or.inl n1)]
    exact c1) (by
    unfold sortWorld
    rw [cell?_grow _ _ _ (by show B2 < (putRow _ _ _ _ _).heap.size; rw [size_putRow]; exact h2), cell?_putRow_other _ _ blk off _ _ (Or.inl n2)]
    exact c2)
theorem del_any (a k : Int) (B1 B2 blk off cap : Nat) (d : Array Int) (w : World) (h1 : B1 < w.heap.size) (h2 : B2 < w.heap.size) (n1 : B1 ≠ blk) (n2 : B2 ≠ blk) (c1 : w.cell? ⟨B1, 0, none⟩ = some (.int .u16 a)) (c2 : w.cell? ⟨B2, 0, none⟩ = some (.int .u32 k))
    (hH : Holds (Value.int .u16) w blk off d) (hsz : d.size ≤ 9223372036854775807) (hcap : d.size ≤ cap) :
    Calls Try.prog 21 #[.slice (some ⟨blk, off, none⟩) d.size cap, .func (.func 23) #[] #[.pointer (some ⟨B1, 0, none⟩), .pointer (some ⟨B2, 0, none⟩)]] w fun e w' => e = .returned (.slice (some ⟨blk, off, none⟩) (d.toList.filter fun x => !toldF x a k).length cap) ∧ ∃ q, w' = putRow (Value.int .u16) (Sort.ahead w q) blk off ((d.toList.filter fun x => !toldF x a k) ++ List.replicate (d.size - (d.toList.filter fun x => !toldF x a k).length) 0).toArray := by
  have eg : ∀ args w, (callFunc 23 args).run Try.prog w = .ok (.enter 23 args) w := enters_of Try.func23 (by kernel_rfl) rfl
  exact AnyE.slices_DeleteFunc Try.l21 (Value.int .u16) (fun _ => rfl) (fun x => toldF x a k) 23 _ eg 0 (fun w => by exact Try.zeroValue28 w) blk off cap d w (pred23 a k B1 B2 w h1 h2 c1 c2) (over23 a k B1 B2 blk off d.size w h1 h2 n1 n2 c1 c2) hH hsz hcap
end Go.Proofs.Ytfadaakogpbgfaa
