/-
  Roster: New, Apply.
-/
import Derived.Test.YthjabcogbjdkiaaG
import Derived.Deep.RegionHeld3
namespace Go.Proofs.Ythjabcogbjdkiaa
set_option linter.unusedVariables false
open Go.ChangeShapes Go.WideShapes Go.ChangeAt Go.RowKit

theorem rosF_congr {v : Int} {P G P' G' : Nat → Int} (h : ∀ n, n < 8 → P n = P' n ∧ G n = G' n) (k : Nat) (hk : k < 17) : rosF v P G k = rosF v P' G' k := by
  unfold rosF
  by_cases h0 : k = 0
  · rw [if_pos h0, if_pos h0]
  · rw [if_neg h0, if_neg h0]
    by_cases h1 : k % 2 = 1
    · rw [if_pos h1, if_pos h1, (h (k / 2) (by omega)).1]
    · rw [if_neg h1, if_neg h1, (h (k / 2 - 1) (by omega)).2]
theorem rosL_congr {v : Int} {P G P' G' : Nat → Int} (h : ∀ n, n < 8 → P n = P' n ∧ G n = G' n) : rosL v P G = rosL v P' G' := by
  unfold rosL
  refine List.map_congr_left fun k hk => ?_
  rw [List.mem_range] at hk
  rw [rosF_congr h k hk]
theorem RosAt.congr {w : World} {b : Nat} {v : Int} {P G P' G' : Nat → Int} (a : RosAt w b v P G) (h : ∀ n, n < 8 → P n = P' n ∧ G n = G' n) : RosAt w b v P' G' :=
  ⟨fun k hk => by rw [a.cell k hk, rosF_congr h k hk], a.fz⟩
theorem results_cell1 {fn : Func} {t : Tmp} (h : fn.results = #[.cell t 27]) (tmps : Array Value) (w : World) (b : Nat) (hb : tmps.getD t undef = .pointer (some ⟨b, 0, none⟩)) (v : Int) (P G : Nat → Int) (hr : RosAt w b v P G) :
    (results fn tmps).run Try.prog w = .ok (rosV v P G) w := by
  have hl := run_loadVar_mid (P := Try.prog) w b 0 27 (rosL v P G) _ hr.range Try.underlying27 rfl (size_27 v P G)
  have hb' : tmps[t]?.getD undef = .pointer (some ⟨b, 0, none⟩) := by simpa using hb
  simp [results, h, hb', asAddr, hl, rosV]
def nobody (n : Nat) : Nat → Int := fun k => if k < n then -1 else 0
set_option maxHeartbeats 1000000 in
theorem new_any (w : World) : Calls Try.prog 6 #[] w fun e w' => e = .returned (rosV 0 (fun _ => -1) (fun _ => 0)) ∧ Below w.heap.size w w' := by
  go_enter Try.func6, Try.ntmps6
  go_wp2_with fail
  have hz1 : (w.alloc (Obj.cells #[.int .i64 0, .int .i64 0, .int .i64 0, .int .i64 0, .int .i64 0, .int .i64 0, .int .i64 0, .int .i64 0, .int .i64 0, .int .i64 0, .int .i64 0, .int .i64 0, .int .i64 0, .int .i64 0, .int .i64 0, .int .i64 0, .int .i64 0] 27)).heap.size = w.heap.size + 1 := by simp
  have hr : RosAt (w.alloc (Obj.cells #[.int .i64 0, .int .i64 0, .int .i64 0, .int .i64 0, .int .i64 0, .int .i64 0, .int .i64 0, .int .i64 0, .int .i64 0, .int .i64 0, .int .i64 0, .int .i64 0, .int .i64 0, .int .i64 0, .int .i64 0, .int .i64 0, .int .i64 0] 27)) w.heap.size 0 (fun _ => 0) (fun _ => 0) := rosAt_new 0 (fun _ => 0) (fun _ => 0) 27 w
  have hb1 := (Below.refl w.heap.size w).alloc (Nat.le_refl _) (Obj.cells #[.int .i64 0, .int .i64 0, .int .i64 0, .int .i64 0, .int .i64 0, .int .i64 0, .int .i64 0, .int .i64 0, .int .i64 0, .int .i64 0, .int .i64 0, .int .i64 0, .int .i64 0, .int .i64 0, .int .i64 0, .int .i64 0, .int .i64 0] 27)
  generalize w.alloc (Obj.cells #[.int .i64 0, .int .i64 0, .int .i64 0, .int .i64 0, .int .i64 0, .int .i64 0, .int .i64 0, .int .i64 0, .int .i64 0, .int .i64 0, .int .i64 0, .int .i64 0, .int .i64 0, .int .i64 0, .int .i64 0, .int .i64 0, .int .i64 0] 27) = w1 at hr hz1 hb1 ⊢
  have hr2 : RosAt (w1.alloc (Obj.cells #[.int .i64 0, .int .i64 0, .int .i64 0, .int .i64 0, .int .i64 0, .int .i64 0, .int .i64 0, .int .i64 0, .int .i64 0, .int .i64 0, .int .i64 0, .int .i64 0, .int .i64 0, .int .i64 0, .int .i64 0, .int .i64 0, .int .i64 0] 27)) w1.heap.size 0 (fun _ => 0) (fun _ => 0) := rosAt_new 0 (fun _ => 0) (fun _ => 0) 27 w1
  have hr1 := hr.block (Below.heap_alloc w1 (Obj.cells #[.int .i64 0, .int .i64 0, .int .i64 0, .int .i64 0, .int .i64 0, .int .i64 0, .int .i64 0, .int .i64 0, .int .i64 0, .int .i64 0, .int .i64 0, .int .i64 0, .int .i64 0, .int .i64 0, .int .i64 0, .int .i64 0, .int .i64 0] 27) w.heap.size (by omega))
  have hb2 := hb1.alloc (by omega) (Obj.cells #[.int .i64 0, .int .i64 0, .int .i64 0, .int .i64 0, .int .i64 0, .int .i64 0, .int .i64 0, .int .i64 0, .int .i64 0, .int .i64 0, .int .i64 0, .int .i64 0, .int .i64 0, .int .i64 0, .int .i64 0, .int .i64 0, .int .i64 0] 27)
  generalize w1.alloc (Obj.cells #[.int .i64 0, .int .i64 0, .int .i64 0, .int .i64 0, .int .i64 0, .int .i64 0, .int .i64 0, .int .i64 0, .int .i64 0, .int .i64 0, .int .i64 0, .int .i64 0, .int .i64 0, .int .i64 0, .int .i64 0, .int .i64 0, .int .i64 0] 27) = w2 at *
  rw [hz1] at hr2
  generalize hb0 : w.heap.size = b at *
  have HB0 := Lib.hid hb0
  clear hr hb1 hz1 hb0
  go_loopw [3] (fun i wr => ∃ n : Nat, n ≤ 8 ∧ i = .int .i64 n ∧ RosAt wr b 0 (fun _ => 0) (fun _ => 0) ∧ RosAt wr (b + 1) 0 (nobody n) (fun _ => 0) ∧ Below b w wr) (fun i _ => 8 - (intOf i).toNat)
  case atStart => exact ⟨0, by omega, rfl, hr1, hr2.congr (fun k hk => ⟨by unfold nobody; rw [if_neg (by omega)], rfl⟩), hb2⟩
  case round =>
    obtain ⟨n, hn, rfl, h1, h2, hB⟩ := hrel
    have H1 := Lib.hid h1
    have H2 := Lib.hid h2
    have HB := Lib.hid hB
    by_cases hlt : n < 8
    · have cp := h2.p n hlt
      have fp := h2.fp n hlt
      have HN := Lib.hid ((h2.setP n (-1)).congr (P' := nobody (n + 1)) (G' := fun _ => 0) (fun k hk => ⟨by
        unfold updI nobody
        by_cases e : k = n
        · rw [if_pos e, if_pos (by omega)]
        · rw [if_neg e]
          by_cases e2 : k < n
          · rw [if_pos e2, if_pos (by omega)]
          · rw [if_neg e2, if_neg (by omega)], rfl⟩))
      have HO := Lib.hid (h1.block (w' := wr.setCell ⟨b + 1, 1 + n * 2, none⟩ (.int .i64 (-1))) (Below.heap_setCell _ _ _ _ (by show _ ≠ _; simp)))
      have HB2 := Lib.hid (hB.setCell (p := ⟨b + 1, 1 + n * 2, none⟩) (by show b ≤ b + 1; omega) (.int .i64 (-1)))
      clear h1 h2 hB
      generalize nobody n n = z at cp
      go_wp2_with fail
      all_goals first | exact ⟨⟨n + 1, by omega, by go_num, HO.out, HN.out, HB2.out⟩, by simp [intOf]; omega⟩ | exact ⟨n + 1, by omega, by go_num, HO.out, HN.out, HB2.out⟩ | (simp [intOf]; omega) | go_roundw
      all_goals first | exact ⟨n + 1, by omega, by go_num, HO.out, HN.out, HB2.out⟩ | (simp [intOf]; omega)
    · obtain rfl : n = 8 := by omega
      have H3 := Lib.hid (h2.congr (P' := fun _ => -1) (G' := fun _ => 0) (fun k hk => ⟨by unfold nobody; rw [if_pos hk], rfl⟩))
      have hst := run_store_ros h1.there 0 (fun _ => -1) (fun _ => 0)
      clear h1 h2 hB
      go_wp2_with (refine wpList_load_mid rfl 27 _ rfl (b + 1) 0 rfl _ _ H3.out.range Try.underlying27 rfl (size_27 _ _ _) ?_)
      refine bodyPost_ret (results_cell1 rfl _ _ b rfl _ _ _ (rosAt_stored H1.out.there _ _ _)) rfl ⟨rfl, ?_⟩
      rw [HB0.out]
      exact below_setCells _ (Nat.le_refl _) _ _ HB.out
structure EvAt (w : World) (b : Nat) (k : Int) (s : Int) (g p : Int) : Prop where
  c0 : w.cell? ⟨b, 0, none⟩ = some (.int .i64 k)
  c1 : w.cell? ⟨b, 1, none⟩ = some (.int .i64 s)
  c2 : w.cell? ⟨b, 2, none⟩ = some (.int .i64 g)
  c3 : w.cell? ⟨b, 3, none⟩ = some (.int .i64 p)
theorem evAt_new (k s g p : Int) (w : World) : EvAt (w.alloc (Obj.cells #[.int .i64 k, .int .i64 s, .int .i64 g, .int .i64 p] 40)) w.heap.size k s g p := by
  constructor
  all_goals (rw [World.cell?_alloc_new]; rfl)
theorem EvAt.block {w w' : World} {b : Nat} {k s g p : Int} (a : EvAt w b k s g p) (e : w'.heap[b]? = w.heap[b]?) : EvAt w' b k s g p :=
  ⟨(World.cell?_of_block e).trans a.c0, (World.cell?_of_block e).trans a.c1, (World.cell?_of_block e).trans a.c2, (World.cell?_of_block e).trans a.c3⟩
end Go.Proofs.Ythjabcogbjdkiaa
