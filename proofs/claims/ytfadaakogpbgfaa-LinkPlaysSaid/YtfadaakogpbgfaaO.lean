/-
  Link: Hear, whatever is open.
-/
import Derived.Test.YtfadaakogpbgfaaN
namespace Go.Proofs.Ytfadaakogpbgfaa
set_option linter.unusedVariables false
open Go.ChangeShapes Go.WideShapes Go.ChangeAt Go.RowKit Go.Sort

theorem hear_any (b h : Nat) (nx t l now s a k : Int) (v : Value) (R : Nat → Prop) (zs : List Int) (hzl : zs.length ≤ 64) (m : Nat) (hm : m < 2 ^ 32) (is : Bool) (w : World) (A : LinkAt w b nx v h t) (ho : OpenAt w R v zs) (hh : HeardAt w h is l m) (hhb : h ≠ b) (hbs : b < w.heap.size) (hhs : h < w.heap.size) :
    Calls Try.prog 12 #[.pointer (some ⟨b, 0, none⟩), .int .i64 now, .int .u16 s, .int .u16 a, .int .u32 k] w fun e w' => e = .returned (.bool (noteB is l s m)) ∧ ∃ v', LinkAt w' b nx v' h (max t now) ∧ HeardAt w' h true (noteL is l s) (noteM is l s m) ∧ OpenAt w' (fun k => w.heap.size ≤ k) v' (zs.filter fun x => !toldF x a k) ∧ Frame (fun k => k = b ∨ k = h) w w' := by
  rcases ho with ⟨rfl, rfl⟩ | ⟨g, off, cap, rfl, hRg, hgs, hr⟩
  · refine (hear_1 b h nx t l now s a k m hm is w A hh hhb hbs hhs).mono ?_
    rintro e w' ⟨rfl, h1, h2, h3⟩
    exact ⟨rfl, _, h1, h2, Or.inl ⟨rfl, rfl⟩, h3⟩
  · exact hear_2 b h nx t l now s a k g off cap zs hzl m hm is w A hr hgs hh hhb hbs hhs
end Go.Proofs.Ytfadaakogpbgfaa
