/-
  Link: one link, whole.
-/
import Derived.Test.YtfadaakogpbgfaaO
namespace Go.Proofs.Ytfadaakogpbgfaa
set_option linter.unusedVariables false
open Go.ChangeShapes Go.WideShapes Go.ChangeAt Go.RowKit Go.Sort

/-- One link: its Heard at h, itself at h + 1, its row above. -/
structure One (w0 w : World) (h : Nat) (nx t l : Int) (m : Nat) (is : Bool) (zs : List Int) : Prop where
  ex : ∃ v, LinkAt w (h + 1) nx v h t ∧ OpenAt w (fun k => h + 1 < k) v zs
  heard : HeardAt w h is l m
  size : h + 1 < w.heap.size
  bel : Below h w0 w
theorem OpenAt.mono {w : World} {R S : Nat → Prop} {v : Value} {zs : List Int} (h : OpenAt w R v zs) (hRS : ∀ k, R k → S k) : OpenAt w S v zs := by
  rcases h with h | ⟨g, off, cap, h1, h2, h3, h4⟩
  · exact Or.inl h
  · exact Or.inr ⟨g, off, cap, h1, hRS g h2, h3, h4⟩
theorem Frame.below {P : Nat → Prop} {w w' : World} (a : Frame P w w') (h : Nat) (hs : h ≤ w.heap.size) (hP : ∀ k, P k → h ≤ k) : Below h w w' :=
  ⟨a.os, a.tape, a.output, a.size, fun k hk => a.block k (by omega) (fun hp => by have := hP k hp; omega)⟩
theorem one_new (t : Int) (w : World) :
    Calls Try.prog 7 #[.int .i64 t] w fun e w' => e = .returned (.pointer (some ⟨w.heap.size + 1, 0, none⟩)) ∧ One w w' w.heap.size 1 t 0 0 false [] := by
  refine (new_link t w).mono ?_
  rintro e w' ⟨rfl, h1, h2, h3, h4⟩
  exact ⟨rfl, ⟨_, h1, Or.inl ⟨rfl, rfl⟩⟩, h2, by omega, h4⟩
theorem one_stamp {w0 w : World} {h : Nat} {nx t l : Int} {m : Nat} {is : Bool} {zs : List Int} (o : One w0 w h nx t l m is zs) (hz : zs.length ≤ 64) :
    Calls Try.prog 10 #[.pointer (some ⟨h + 1, 0, none⟩)] w fun e w' => e = .returned (.tuple #[.int .u16 nx, .int .u16 l, .int .u32 m]) ∧ One w0 w' h (IntKind.u16.wrap (nx + 1)) t l m is (cut64 (zs ++ [nx])) := by
  obtain ⟨v, hL, hO⟩ := o.ex
  have hs := o.size
  refine (stamp_any (h + 1) h nx t l m is v _ zs hz w hL hO (by omega) (by omega) o.heard (by omega) hs (by omega)).mono ?_
  rintro e w' ⟨rfl, v', h1, h2, h3, h4⟩
  exact ⟨rfl, ⟨v', h1, h3.mono (fun k hk => by rcases hk with hk | hk <;> omega)⟩, h2, Nat.lt_of_lt_of_le hs h4.size, o.bel.trans (h4.below h (by omega) (fun k hk => by rcases hk with hk | hk <;> omega))⟩
theorem one_hear {w0 w : World} {h : Nat} {nx t l : Int} {m : Nat} {is : Bool} {zs : List Int} (o : One w0 w h nx t l m is zs) (hz : zs.length ≤ 64) (hm : m < 2 ^ 32) (now s a k : Int) :
    Calls Try.prog 12 #[.pointer (some ⟨h + 1, 0, none⟩), .int .i64 now, .int .u16 s, .int .u16 a, .int .u32 k] w fun e w' => e = .returned (.bool (noteB is l s m)) ∧ One w0 w' h nx (max t now) (noteL is l s) (noteM is l s m) true (zs.filter fun x => !toldF x a k) := by
  obtain ⟨v, hL, hO⟩ := o.ex
  have hs := o.size
  refine (hear_any (h + 1) h nx t l now s a k v _ zs hz m hm is w hL hO o.heard (by omega) hs (by omega)).mono ?_
  rintro e w' ⟨rfl, v', h1, h2, h3, h4⟩
  exact ⟨rfl, ⟨v', h1, h3.mono (fun k hk => by omega)⟩, h2, Nat.lt_of_lt_of_le hs h4.size, o.bel.trans (h4.below h (by omega) (fun k hk => by rcases hk with hk | hk <;> omega))⟩
theorem One.below {w0 w w' : World} {h : Nat} {nx t l : Int} {m : Nat} {is : Bool} {zs : List Int} (o : One w0 w h nx t l m is zs) (k : Below w.heap.size w w') : One w0 w' h nx t l m is zs := by
  obtain ⟨v, hL, hO⟩ := o.ex
  have hs := o.size
  refine ⟨⟨v, hL.block (k.block _ hs), ?_⟩, o.heard.block (k.block _ (by omega)), Nat.lt_of_lt_of_le hs k.size, o.bel.trans (k.mono (by omega))⟩
  rcases hO with h1 | ⟨g, off, cap, h1, h2, h3, h4⟩
  · exact Or.inl h1
  · exact Or.inr ⟨g, off, cap, h1, h2, Nat.lt_of_lt_of_le h3 k.size, h4.block (k.block g h3)⟩
theorem one_open {w0 w : World} {h : Nat} {nx t l : Int} {m : Nat} {is : Bool} {zs : List Int} (o : One w0 w h nx t l m is zs) (hz : zs.length ≤ 64) :
    Calls Try.prog 17 #[.pointer (some ⟨h + 1, 0, none⟩)] w fun e w' => ∃ v', e = .returned v' ∧ OpenAt w' (fun k => w.heap.size ≤ k) v' zs ∧ One w0 w' h nx t l m is zs := by
  obtain ⟨v, hL, hO⟩ := o.ex
  refine (open_any (h + 1) nx v h t _ zs (by omega) w hL hO).mono ?_
  rintro e w' ⟨v', rfl, h1, h2⟩
  exact ⟨v', rfl, h1, o.below h2⟩
end Go.Proofs.Ytfadaakogpbgfaa
