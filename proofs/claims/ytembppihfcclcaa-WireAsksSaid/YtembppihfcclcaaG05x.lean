/-
  Entry: Get's inputs, in plain words. Entry: Get, walked. Entry: values of entries laid whole; the entry of told. Values of plain types (whole numbers, structs and arrays of these), and slices of such, that came in: their cells. Entry: entries that came in.
-/
import Derived.Test.YtembppihfcclcaaK0
import Derived.Test.YtembppihfcclcaaRows
import Derived.Laws.BytesArg
import Derived.WalkKit
import Derived.ProofKit
import Derived.OpenShut
import Derived.Deep.Slices
namespace Go.Proofs.Ytembppihfcclcaa
set_option linter.unusedVariables false
open Go.ChangeShapes Go.WideShapes Go.ChangeAt Go.RowKit

theorem gM_lt {bs : List Int} (h : ByteL bs) : gM bs < 256 := by
  have := h (5 + 5 * gN bs)
  unfold gM
  omega
theorem bit_test (M s : Nat) (hM : M < 256) (hs : s < 8) : (bits .and .i64 ((M : Int) / 2 ^ s) 1 == 1) = M.testBit s := by
  have h0 : ∀ t : Nat, t < 8 → ∀ b : Nat, b < 256 → (bits .and .i64 ((b : Int) / 2 ^ t) 1 == 1) = b.testBit t := by
    decide +kernel
  exact h0 s hs M hM
theorem gcnt_yes (M s : Nat) (h : M.testBit s = true) : gcnt M (s + 1) = gcnt M s + 1 := by show (if M.testBit s then _ else _) = _; rw [if_pos h]
theorem gcnt_no (M s : Nat) (h : M.testBit s = false) : gcnt M (s + 1) = gcnt M s := by show (if M.testBit s then _ else _) = _; rw [if_neg (by simp [h])]
theorem gIs_no (bs : List Int) (s : Nat) (h : (gM bs).testBit s = false) : gIs bs (s + 1) = gIs bs s := by
  funext k
  unfold gIs
  by_cases h1 : k < 3 * s
  · rw [if_pos h1, if_pos (by omega)]
  · rw [if_neg h1]
    by_cases h2 : k < 3 * (s + 1)
    · rw [if_pos h2]
      unfold gI
      rw [show k / 3 = s by omega, if_neg (by simp [h])]
    · rw [if_neg h2]
theorem gIs_yes (bs : List Int) (s : Nat) (h : (gM bs).testBit s = true) : gIs bs (s + 1) = updI (updI (updI (gIs bs s) (s * 3) (sgn (zz bs (6 + 5 * gN bs + 3 * gcnt (gM bs) s)))) (s * 3 + 1) (sgn (zz bs (6 + 5 * gN bs + 3 * gcnt (gM bs) s + 1)))) (s * 3 + 2) (zz bs (6 + 5 * gN bs + 3 * gcnt (gM bs) s + 2)) := by
  funext k
  unfold gIs updI
  by_cases h1 : k < 3 * s
  · rw [if_pos (by omega), if_neg (by omega), if_neg (by omega), if_neg (by omega)]
    show _ = if k < 3 * s then gI bs k else 0
    rw [if_pos h1]
  · by_cases h2 : k < 3 * (s + 1)
    · rw [if_pos h2]
      unfold gI
      rw [show k / 3 = s by omega, if_pos h]
      rcases (by omega : k = s * 3 ∨ k = s * 3 + 1 ∨ k = s * 3 + 2) with e | e | e
      · rw [if_neg (show ¬ (k % 3 = 2) by omega), if_neg (show ¬ (k = s * 3 + 2) by omega), if_neg (show ¬ (k = s * 3 + 1) by omega), if_pos e, show k % 3 = 0 by omega]; rfl
      · rw [if_neg (show ¬ (k % 3 = 2) by omega), if_neg (show ¬ (k = s * 3 + 2) by omega), if_pos e, show k % 3 = 1 by omega]
      · rw [if_pos (show k % 3 = 2 by omega), if_pos e, show k % 3 = 2 by omega]
    · rw [if_neg h2, if_neg (by omega), if_neg (by omega), if_neg (by omega)]
      show _ = if k < 3 * s then gI bs k else 0
      rw [if_neg h1]
theorem GS.set3 {w wr : World} {bs : List Int} {b o C i m : Nat} {fr : Int} {sv : Value} {E : Nat → Nat → Int} {I : Nat → Int} (h : GS w bs b o C i fr sv m E I wr) (s : Nat) (hs : s < 8) (x y z : Int) :
    GS w bs b o C i fr sv m E (updI (updI (updI I (s * 3) x) (s * 3 + 1) y) (s * 3 + 2) z) (((wr.setCell ⟨w.heap.size, 2 + s * 3, none⟩ (.int .i8 x)).setCell ⟨w.heap.size, 2 + s * 3 + 1, none⟩ (.int .i8 y)).setCell ⟨w.heap.size, 2 + s * 3 + 2, none⟩ (.int .u8 z)) := by
  have h1 := h.setIn (s * 3) (by omega) x
  rw [if_neg (show ¬ (s * 3 % 3 = 2) by omega)] at h1
  have h2 := h1.setIn (s * 3 + 1) (by omega) y
  rw [if_neg (show ¬ ((s * 3 + 1) % 3 = 2) by omega)] at h2
  have h3 := h2.setIn (s * 3 + 2) (by omega) z
  rw [if_pos (show (s * 3 + 2) % 3 = 2 by omega)] at h3
  exact h3
theorem i8_sgn (x : Int) (h : 0 ≤ x ∧ x < 256) : IntKind.i8.wrap x = sgn x := by
  unfold sgn
  have e : IntKind.i8.wrap x = (x + 128) % 256 - 128 := by
    first | (simp [IntKind.wrap, IntKind.bits, IntKind.signed]; omega) | rfl
  rw [e]
  split <;> omega
theorem EntAt.congr {w : World} {b o : Nat} {fr : Int} {sv : Value} {I I' : Nat → Int} (h : EntAt w b o fr sv I) (he : ∀ k, k < 24 → I k = I' k) : EntAt w b o fr sv I' := by
  constructor
  intro k hk
  rw [h.cell k hk]
  unfold entF inpV
  split
  · rfl
  · split
    · rfl
    · rw [he (k - 2) (by omega)]
theorem GS.congr {w wr : World} {bs : List Int} {b o C i m : Nat} {fr : Int} {sv : Value} {E : Nat → Nat → Int} {I I' : Nat → Int} (h : GS w bs b o C i fr sv m E I wr) (he : ∀ k, k < 24 → I k = I' k) : GS w bs b o C i fr sv m E I' wr :=
  ⟨h.rd, h.ent.congr he, h.th, h.c3, h.f3, h.own, h.bel⟩
theorem gIs_all (bs : List Int) (k : Nat) (hk : k < 24) : gIs bs 8 k = gI bs k := by unfold gIs; rw [if_pos (by omega)]
theorem setCells_size (b : Nat) : ∀ (vs : List Value) (o : Nat) (w : World), (w.setCells b o vs).heap.size = w.heap.size
  | [], _, _ => rfl
  | v :: r, o, w => by
    rw [World.setCells, setCells_size b r]
    simp [World.setCell]
theorem GS.back {w wr : World} {bs : List Int} {b o C i m : Nat} {fr : Int} {sv : Value} {E : Nat → Nat → Int} {I : Nat → Int} (h : GS w bs b o C i fr sv m E I wr) : GS w bs b o C i fr sv m E I (wr.setCells w.heap.size 0 (entL fr sv I)) := by
  have hb := below_setCells w.heap.size (Nat.le_refl _) (entL fr sv I) 0 (Below.refl w.heap.size wr)
  have hk := fun k (hk : k ≠ w.heap.size) => setCells_other w.heap.size k hk (entL fr sv I) 0 wr
  have hO : Only w.heap.size wr (wr.setCells w.heap.size 0 (entL fr sv I)) := ⟨hb.os, hb.tape, hb.output, setCells_size _ _ _ _, hk⟩
  have e1 := entAt_stored h.th fr sv I
  have t1 := there_setCells h.th fr sv I
  generalize wr.setCells w.heap.size 0 (entL fr sv I) = w2 at *
  exact ⟨h.rd.block (hk _ (by omega)), e1, t1, (World.cell?_of_block (hk (w.heap.size + 1) (by omega))).trans h.c3, (World.frozen?_of_block (hk (w.heap.size + 1) (by omega))).trans h.f3, h.own.other hO (by omega), h.bel.trans hb⟩
theorem GS.code {w wr : World} {bs : List Int} {b o C i m : Nat} {fr : Int} {sv : Value} {E : Nat → Nat → Int} {I : Nat → Int} (h : GS w bs b o C i fr sv m E I wr) : GS w bs b o C i fr sv m E I (wr.setCell ⟨w.heap.size + 1, 0, none⟩ (.int .i64 0)) := by
  have hO := (Only.refl (w.heap.size + 1) wr).setCell (p := ⟨w.heap.size + 1, 0, none⟩) rfl (.int .i64 0)
  exact ⟨h.rd.block (hO.block _ (by omega)), h.ent.block (hO.block _ (by omega)), there_block h.th (hO.block _ (by omega)), World.cell?_setCell_same _ _ _ h.c3, by rw [World.frozen?_setCell]; exact h.f3, h.own.other hO (by omega), h.bel.trans (hO.below (by omega))⟩
theorem putB_pos (fr : Int) (n : Nat) (E : Nat → Nat → Int) (I : Nat → Int) : 6 ≤ (putB fr n E I).length := by unfold putB; rw [putS_len]; omega
theorem store_ent_there (fr : Int) (sv : Value) (I : Nat → Int) (h1 : (entL fr sv I).toArray.all (·.oneCell') = true) (w : World) (b : Nat) (ht : w.there b 0 26) :
    (storeCells ⟨b, 0, none⟩ (entL fr sv I)).run Try.prog w = .ok () (w.setCells b 0 (entL fr sv I)) := by
  have := run_storeCells_cells (P := Try.prog) b 0 (entL fr sv I) 0 w (fun j hj => by rw [entL_len] at hj; simpa using (ht j hj).1) (fun j hj => by rw [entL_len] at hj; simpa using (ht j hj).2)
    (fun x hx => (Array.all_eq_true_iff_forall_mem.1 h1) x (by simpa using hx))
  simpa using this
end Go.Proofs.Ytembppihfcclcaa

namespace Go.Proofs.Ytembppihfcclcaa
set_option linter.unusedVariables false
open Go.ChangeShapes Go.WideShapes Go.ChangeAt Go.RowKit

set_option maxHeartbeats 4000000 in
theorem get_any (v : Value) (bs : List Int) (w : World) (hv : BytesV w v bs) (hby : ByteL bs) :
    Calls Try.prog 67 #[v] w fun e w' => GetPost w.heap.size bs e w' ∧ Below w.heap.size w w' := by
  have hmf : ∀ (fn : Fn) (first cap : Array Value) (w : World), (Instr.makeFunc fn first cap).run Try.prog w = .ok (.func fn first cap) w := fun _ _ _ _ => rfl
  have hv0 := hv
  obtain ⟨a, cap, rfl, hnc, hcm, hev⟩ := hv
  have hbo : ∃ b o, (0 < bs.length → a = some ⟨b, o, none⟩) ∧ (0 < bs.length → b < w.heap.size ∧ BytesAt w b o bs) := by
    by_cases h : 0 < bs.length
    · obtain ⟨b, o, h1, h2, h3⟩ := hev h
      exact ⟨b, o, fun _ => h1, fun _ => ⟨h2, h3⟩⟩
    · exact ⟨0, 0, fun h' => absurd h' h, fun h' => absurd h' h⟩
  obtain ⟨b, o, ha, hbs⟩ := hbo
  have HG := Lib.hid (gs_start w bs a b o cap ha hnc hcm (gE bs))
  have HBS := Lib.hid hbs
  have HV := Lib.hid hv0
  have HBY := Lib.hid hby
  have hle4 := le4 _ _ _ _ (hby 0) (hby 1) (hby 2) (hby 3)
  have HTot : Hid (∀ i, bs.length ≤ i → i < 6 + 5 * gN bs → bs.length < gTot bs) := Lib.hid (fun i h1 h2 => by unfold gTot; omega)
  clear ha hev hbs hv0 hby
  unfold GW at HG
  go_enter_defers Try.func67, Try.ntmps67
  go_wp2_with fail
  generalize (((w.alloc (Obj.cells #[.int .i64 0, .slice none 0 0, .int .i8 0, .int .i8 0, .int .u8 0, .int .i8 0, .int .i8 0, .int .u8 0, .int .i8 0, .int .i8 0, .int .u8 0, .int .i8 0, .int .i8 0, .int .u8 0, .int .i8 0, .int .i8 0, .int .u8 0, .int .i8 0, .int .i8 0, .int .u8 0, .int .i8 0, .int .i8 0, .int .u8 0, .int .i8 0, .int .i8 0, .int .u8 0] 37)).alloc (Obj.cells #[.int .i64 0] 3)).alloc (Obj.cells #[.slice a bs.length cap] 107)) = w1 at *
  refine (get_byte 1 rfl HBY.out HBS.out HG.out).mono ?_
  rintro e w2 (⟨l0, rfl, hg⟩ | ⟨l0, rfl, hg⟩)
  rotate_left
  · have HG' := Lib.hid hg
    go_wp2_with fail
    exact get_short HG'.out (HTot.out _ l0 (by omega)) _ rfl rfl
  replace HG := Lib.hid hg
  clear hg
  go_wp2_with fail
  refine (get_byte 2 rfl HBY.out HBS.out HG.out).mono ?_
  rintro e w3 (⟨l1, rfl, hg⟩ | ⟨l1, rfl, hg⟩)
  rotate_left
  · have HG' := Lib.hid hg
    go_wp2_with fail
    exact get_short HG'.out (HTot.out _ l1 (by omega)) _ rfl rfl
  replace HG := Lib.hid hg
  clear hg
  go_wp2_with fail
  refine (get_byte 3 rfl HBY.out HBS.out HG.out).mono ?_
  rintro e w4 (⟨l2, rfl, hg⟩ | ⟨l2, rfl, hg⟩)
  rotate_left
  · have HG' := Lib.hid hg
    go_wp2_with fail
    exact get_short HG'.out (HTot.out _ l2 (by omega)) _ rfl rfl
  replace HG := Lib.hid hg
  clear hg
  go_wp2_with fail
  refine (get_byte 4 rfl HBY.out HBS.out HG.out).mono ?_
  rintro e w5 (⟨l3, rfl, hg⟩ | ⟨l3, rfl, hg⟩)
  rotate_left
  · have HG' := Lib.hid hg
    go_wp2_with fail
    exact get_short HG'.out (HTot.out _ l3 (by omega)) _ rfl rfl
  replace HG := Lib.hid hg
  have c0 := hg.ent.z0
  have f0 : w5.frozen? ⟨w.heap.size, 0, none⟩ = false := (hg.th 0 (by omega)).2
  have hg2 : GS w bs b o cap 4 (gFr bs) (.slice none 0 0) 0 (gE bs) (fun _ => 0) (w5.setCell ⟨w.heap.size, 0, none⟩ (.int .i64 (zz bs 0 + zz bs 1 * 256 + zz bs 2 * 65536 + zz bs 3 * 16777216))) := hg.setFr
  replace HG := Lib.hid hg2
  clear hg hg2
  go_wp2_with fail
  clear c0 f0 hle4
  generalize w5.setCell ⟨w.heap.size, 0, none⟩ (.int .i64 (zz bs 0 + zz bs 1 * 256 + zz bs 2 * 65536 + zz bs 3 * 16777216)) = w5' at *
  refine (get_byte 5 rfl HBY.out HBS.out HG.out).mono ?_
  rintro e w6 (⟨l4, rfl, hg⟩ | ⟨l4, rfl, hg⟩)
  rotate_left
  · have HG' := Lib.hid hg
    go_wp2_with fail
    exact get_short HG'.out (HTot.out _ l4 (by omega)) _ rfl rfl
  replace HG := Lib.hid hg
  clear hg l0 l1 l2 l3
  have hN : zz bs 4 = (gN bs : Int) := by have := HBY.out 4; unfold gN; omega
  rw [hN]
  go_wp2_with fail
  clear hN l4
  go_loopw [5] (fun i wr => ∃ k m : Nat, ∃ sv : Value, k + m = gN bs ∧ i = .int .i64 k ∧ GS w bs b o cap (5 + 5 * m) (gFr bs) sv m (gE bs) (fun _ => 0) wr) (fun i _ => (intOf i).toNat)
  case atStart => exact ⟨gN bs, 0, _, rfl, rfl, HG.out⟩
  case round =>
    obtain ⟨k, m, sv, hkm, rfl, hg⟩ := hrel
    clear HG
    have HG := Lib.hid hg
    rcases k with _ | k
    · have hmN : m = gN bs := by omega
      subst hmN
      clear hkm hg
      go_wp2_with fail
      refine (get_byte (6 + 5 * gN bs) (by omega) HBY.out HBS.out HG.out).mono ?_
      rintro e w7 (⟨l5, rfl, hg⟩ | ⟨l5, rfl, hg⟩)
      rotate_left
      · have HG' := Lib.hid hg
        go_wp2_with fail
        exact get_short HG'.out (HTot.out _ l5 (by omega)) _ rfl rfl
      replace HG := Lib.hid hg
      clear hg l5
      have hM : zz bs (5 + 5 * gN bs) = (gM bs : Int) := by have := HBY.out (5 + 5 * gN bs); unfold gM; omega
      rw [hM]
      clear hM
      go_wp2_with fail
      go_loopw [55] (fun i wr => ∃ s : Nat, s ≤ 8 ∧ i = .int .i64 s ∧ GS w bs b o cap (6 + 5 * gN bs + 3 * gcnt (gM bs) s) (gFr bs) sv (gN bs) (gE bs) (gIs bs s) wr) (fun i _ => 8 - (intOf i).toNat)
      case atStart => exact ⟨0, by omega, rfl, HG.out⟩
      case round =>
        obtain ⟨s, hs, rfl, hg⟩ := hrel
        clear HG
        have HG := Lib.hid hg
        clear hg
        by_cases hlt : s < 8
        · have hbt := bit_test (gM bs) s (gM_lt HBY.out) hlt
          rcases htb : (gM bs).testBit s with _ | _
          · rw [htb] at hbt
            have HE : Hid (GS w bs b o cap (6 + 5 * gN bs + 3 * gcnt (gM bs) (s + 1)) (gFr bs) sv (gN bs) (gE bs) (gIs bs (s + 1)) wr) := Lib.hid (by rw [gcnt_no _ _ htb, gIs_no _ _ htb]; exact HG.out)
            go_wp2_with fail
            exact ⟨⟨s + 1, by omega, rfl, HE.out⟩, by show 8 - (s + 1) < 8 - s; omega⟩
          · rw [htb] at hbt
            have hgm := gcnt_mono (gM bs) (s + 1) 8 (by omega)
            have hgy := gcnt_yes _ _ htb
            have hgI := gIs_yes bs s htb
            obtain ⟨q0, hq0⟩ : ∃ q, 6 + 5 * gN bs + 3 * gcnt (gM bs) s = q := ⟨_, rfl⟩
            have hq3 : 6 + 5 * gN bs + 3 * gcnt (gM bs) (s + 1) = q0 + 3 := by omega
            have HTq : Hid (∀ q, bs.length ≤ q → q < q0 + 3 → bs.length < gTot bs) := Lib.hid (fun q h1 h2 => by unfold gTot; omega)
            rw [hq0] at HG hgI
            have HQ3 := Lib.hid hq3
            have HGI := Lib.hid hgI
            clear hgm hgy hgI hq0 hq3
            go_wp2_with fail
            refine (get_byte (q0 + 1) rfl HBY.out HBS.out HG.out).mono ?_
            rintro e v0 (⟨l, rfl, hg⟩ | ⟨l, rfl, hg⟩)
            rotate_left
            · have HG' := Lib.hid hg
              go_wp2_with fail
              exact get_short HG'.out (HTq.out _ l (by omega)) _ rfl rfl
            clear l
            replace HG := Lib.hid hg
            clear hg
            go_wp2_with fail
            refine (get_byte (q0 + 2) rfl HBY.out HBS.out HG.out).mono ?_
            rintro e v1 (⟨l, rfl, hg⟩ | ⟨l, rfl, hg⟩)
            rotate_left
            · have HG' := Lib.hid hg
              go_wp2_with fail
              exact get_short HG'.out (HTq.out _ l (by omega)) _ rfl rfl
            clear l
            replace HG := Lib.hid hg
            clear hg
            go_wp2_with fail
            refine (get_byte (q0 + 3) rfl HBY.out HBS.out HG.out).mono ?_
            rintro e v2 (⟨l, rfl, hg⟩ | ⟨l, rfl, hg⟩)
            rotate_left
            · have HG' := Lib.hid hg
              go_wp2_with fail
              exact get_short HG'.out (HTq.out _ l (by omega)) _ rfl rfl
            clear l
            replace HG := Lib.hid hg
            clear hg
            have hin := HG.out.ent.inps
            have c0 := hin.x s hlt
            have c1 := hin.y s hlt
            have c2 := hin.z s hlt
            have f0 : v2.frozen? ⟨w.heap.size, 2 + s * 3, none⟩ = false := by have := (HG.out.th (2 + s * 3) (by omega)).2; rwa [Nat.zero_add] at this
            have f1 : v2.frozen? ⟨w.heap.size, 2 + s * 3 + 1, none⟩ = false := by have := (HG.out.th (2 + s * 3 + 1) (by omega)).2; rwa [Nat.zero_add] at this
            have f2 : v2.frozen? ⟨w.heap.size, 2 + s * 3 + 2, none⟩ = false := by have := (HG.out.th (2 + s * 3 + 2) (by omega)).2; rwa [Nat.zero_add] at this
            clear hin
            have w0 := i8_sgn _ (HBY.out q0)
            have w1 := i8_sgn _ (HBY.out (q0 + 1))
            have w2 : zz bs (q0 + 2) % 256 = zz bs (q0 + 2) := by have := HBY.out (q0 + 2); omega
            have hE := HG.out.set3 s hlt (sgn (zz bs q0)) (sgn (zz bs (q0 + 1))) (zz bs (q0 + 2))
            rw [← HGI.out, ← HQ3.out] at hE
            have HE := Lib.hid hE
            clear hE
            go_wp2_with fail
            refine ⟨⟨s + 1, by omega, rfl, ?_⟩, by show 8 - (s + 1) < 8 - s; omega⟩
            first | exact HE.out | (rw [w0, w1, w2]; exact HE.out)
        · obtain rfl : s = 8 := by omega
          have hG2 := HG.out.congr (fun k hk => gIs_all bs k hk)
          replace HG := Lib.hid hG2
          have hgN := gN_lt HBY.out
          clear hG2
          have HV2 := Lib.hid (HV.out.below HG.out.bel (Nat.le_refl _))
          rcases hmay : mayE (gFr bs) (gN bs) (gE bs) (gI bs) with _ | _
          · have HNo : Hid (¬ OkG bs) := Lib.hid (fun h => by have h2 := h.2.1; rw [hmay] at h2; cases h2)
            go_wp2_with (refine wpList_load_g (by rfl) 37 _ rfl w.heap.size 0 rfl _ _ HG.out.ent.range Try.underlying37 rfl (size_ent _ _ _) ?_)
            refine (put_no (gFr bs) sv (gN bs) (gE bs) (gI bs) _ HG.out.own.evs hmay).mono ?_
            rintro e w9 ⟨rfl, hb9⟩
            replace HG := Lib.hid (HG.out.below hb9 (Nat.le_refl _))
            clear hb9 hmay
            go_wp2_with fail
            exact get_bad HG.out _ rfl rfl _ (fun w' hb => ⟨Or.inr ⟨HNo.out, rfl⟩, hb⟩)
          · go_wp2_with (refine wpList_load_g (by rfl) 37 _ rfl w.heap.size 0 rfl _ _ HG.out.ent.range Try.underlying37 rfl (size_ent _ _ _) ?_)
            refine (put_yes (gFr bs) sv (gN bs) (gE bs) (gI bs) _ HG.out.own.evs (by omega) hmay).mono ?_
            rintro e w9 ⟨⟨v, rfl, hO⟩, hb9⟩
            replace HG := Lib.hid (HG.out.below hb9 (Nat.le_refl _))
            have HO := Lib.hid (hO.bytes (by have := putB_pos (gFr bs) (gN bs) (gE bs) (gI bs); omega))
            have HV3 := Lib.hid (HV2.out.below hb9 (Nat.le_refl _))
            clear hb9 hO HV2
            go_wp2_with fail
            refine (eqByte_any v (.slice a bs.length cap) _ bs _ HO.out HV3.out).mono ?_
            rintro e w10 ⟨rfl, hb10⟩
            replace HG := Lib.hid (HG.out.below hb10 (Nat.le_refl _))
            clear hb10 HO HV3
            by_cases heq : putB (gFr bs) (gN bs) (gE bs) (gI bs) = bs
            · rw [decide_eq_true heq]
              have hle := HG.out.rd.le
              have HOk : Hid (OkG bs) := Lib.hid ⟨hle, hmay, heq⟩
              have hst := store_ent_there (gFr bs) sv (gI bs) (HG.out.own.evs.one _ _) w10 w.heap.size HG.out.th
              have hgb := HG.out.back
              generalize w10.setCells w.heap.size 0 (entL (gFr bs) sv (gI bs)) = w11 at *
              have c3 := hgb.c3
              have f3 := hgb.f3
              have HGE := Lib.hid hgb.code
              clear heq hmay hle hgb
              go_wp2_with (refine wpList_load_g (by rfl) 37 _ rfl w.heap.size 0 rfl _ _ HG.out.ent.range Try.underlying37 rfl (size_ent _ _ _) ?_)
              exact get_good HGE.out _ rfl rfl _ (fun w' hb => ⟨Or.inl ⟨HOk.out, sv, rfl, (HGE.out.own.below hb (Nat.le_refl _)).mono (by omega)⟩, HGE.out.bel.trans (hb.mono HGE.out.bel.size)⟩)
            · rw [decide_eq_false heq]
              have HNo : Hid (¬ OkG bs) := Lib.hid (fun h => heq h.2.2)
              clear heq hmay
              go_wp2_with fail
              exact get_bad HG.out _ rfl rfl _ (fun w' hb => ⟨Or.inr ⟨HNo.out, rfl⟩, hb⟩)
    · have hkI : (0 : Int) < ((k + 1 : Nat) : Int) := by omega
      have HGd : Hid (GS w bs b o cap (5 + 5 * m) (gFr bs) sv m (gE bs) (fun _ => 0) wr.drew) := Lib.hid HG.out.drew
      have c1 : wr.drew.cell? ⟨w.heap.size, 1, none⟩ = some sv := HGd.out.ent.z1
      obtain ⟨p0, h0⟩ : ∃ p, 5 + 5 * m = p := ⟨_, rfl⟩
      obtain ⟨p1, h1⟩ : ∃ p, p0 + 1 = p := ⟨_, rfl⟩
      obtain ⟨p2, h2⟩ : ∃ p, p1 + 1 = p := ⟨_, rfl⟩
      obtain ⟨p3, h3⟩ : ∃ p, p2 + 1 = p := ⟨_, rfl⟩
      obtain ⟨p4, h4⟩ : ∃ p, p3 + 1 = p := ⟨_, rfl⟩
      obtain ⟨p5, h5⟩ : ∃ p, p4 + 1 = p := ⟨_, rfl⟩
      have hl2 : bits .or .i64 (zz bs p2) (wrap64 (zz bs p3 * 256)) = gE bs m 2 := by
        rw [le2 _ _ (HBY.out _) (HBY.out _)]; unfold gE; rw [if_neg (by omega), if_neg (by omega), if_pos rfl, show 5 + 5 * m + 2 = p2 by omega, show 5 + 5 * m + 3 = p3 by omega]
      have HL2 : Hid (bits .or .i64 (zz bs p2) (IntKind.i64.wrap (zz bs p3 * 256)) = gE bs m 2) := Lib.hid (by rw [← hl2, IntWalk.i64_left])
      clear hl2
      rw [h0] at HGd
      have HT0 : Hid (bs.length ≤ p0 → bs.length < gTot bs) := Lib.hid (fun h => HTot.out p0 h (by omega))
      have HT1 : Hid (bs.length ≤ p1 → bs.length < gTot bs) := Lib.hid (fun h => HTot.out p1 h (by omega))
      have HT2 : Hid (bs.length ≤ p2 → bs.length < gTot bs) := Lib.hid (fun h => HTot.out p2 h (by omega))
      have HT3 : Hid (bs.length ≤ p3 → bs.length < gTot bs) := Lib.hid (fun h => HTot.out p3 h (by omega))
      have HT4 : Hid (bs.length ≤ p4 → bs.length < gTot bs) := Lib.hid (fun h => HTot.out p4 h (by omega))
      have H0 := Lib.hid h0
      have H1 := Lib.hid h1
      have H2 := Lib.hid h2
      have H3 := Lib.hid h3
      have H4 := Lib.hid h4
      have H5 := Lib.hid h5
      have X0 : Hid (zz bs p0 = gE bs m 0) := Lib.hid (by subst h0; rfl)
      have X1 : Hid (zz bs p1 = gE bs m 1) := Lib.hid (by subst h1; subst h0; rfl)
      have X4 : Hid (zz bs p4 = gE bs m 3) := Lib.hid (by subst h4; subst h3; subst h2; subst h1; subst h0; rfl)
      have hgN := gN_lt HBY.out
      have hkk : k < 300 := by omega
      have HKM : Hid (k + (m + 1) = gN bs) := Lib.hid (by omega)
      have hm1000 : m ≤ 1000 := by omega
      have hk64 : wrap64 (k : Int) = k := by unfold wrap64; omega
      clear h0 h1 h2 h3 h4 h5 hg HG
      go_wp2_with fail
      have HE : Hid (∀ (sv' : Value) (W : World), GS w bs b o cap p5 (gFr bs) sv' (m + 1) (gE bs) (fun _ => 0) W → GS w bs b o cap (5 + 5 * (m + 1)) (gFr bs) sv' (m + 1) (gE bs) (fun _ => 0) W) := Lib.hid (fun sv' W h => by rw [show 5 + 5 * (m + 1) = p5 by have := H0.out; have := H1.out; have := H2.out; have := H3.out; have := H4.out; have := H5.out; omega]; exact h)
      refine ev_region w wr bs b o cap m p0 p1 p2 p3 p4 p5 (gFr bs) sv (fun _ => 0) _ _ _ _ _ _ _ _ _ _ _ _ _ _ _ _ _ _ _ _ _ _ _ _ _ _ _ _ _ _ _ _ _ _ _ _ _ _ _ _ _ _ _ _ _ _ _ _ _ _ _ _ _ _ _ _ _ _ _ _ _ _ _ _ _ _ _ _ _ _ _ _ _ _ _ _ _ _ _ _ _ _ _ _ _ _ _ _ _ _ _ HBY HBS HGd hm1000 H1 H2 H3 H4 H5 X0 X1 HL2 X4 HT0 HT1 HT2 HT3 HT4 _ (fun _ _ _ => rfl) ?_
      intro x35 x36 x37 x38 x39 x40 x41 x42 x43 x44 x45 x46 x47 x48 x49 x50 x51 x52 w' sv' hG'
      clear HGd c1 X0 X1 X4 HL2 HT0 HT1 HT2 HT3 HT4
      go_wp2_with fail
      exact ⟨⟨k, m + 1, HKM.out, rfl, _, HE.out _ _ hG'.out⟩, by show max (k : Int) 0 < (k : Int) + 1; omega⟩
end Go.Proofs.Ytembppihfcclcaa

namespace Go.Proofs.Ytembppihfcclcaa
set_option linter.unusedVariables false
open Go.ChangeShapes Go.WideShapes Go.ChangeAt Go.RowKit

def entZ (fr : Int) : List Value := entL fr (.slice none 0 0) (fun _ => 0)
theorem zeroEnt (w : World) : (zeroValue 37).run Try.prog w = .ok (.agg (entL 0 (.slice none 0 0) (fun _ => 0)).toArray) w := by kernel_rfl
theorem build_fr (fr : Int) (w : World) : (Instr.build 37 #[(0, .int .i64 fr)]).run Try.prog w = .ok (.agg (entL fr (.slice none 0 0) (fun _ => 0)).toArray) w := by kernel_rfl
theorem build_ev (a : Option Addr) (n c : Nat) (w : World) : (Instr.build 37 #[(1, .slice a n c)]).run Try.prog w = .ok (.agg (entL 0 (.slice a n c) (fun _ => 0)).toArray) w := by kernel_rfl
theorem wpList_run {W W' : World} {ops : Array Oper} {rest : List Oper} {o : Oper} {a : Act} {Q : Exit → Act → World → Prop} {v : Value} (hg : Region.wanted o (yielded ops a.tmps) = true) (hr : (execOp a.eval o).run Try.prog W = .ok (.value v) W')
    (hK : wpList Try.prog ops Q rest (a.put o.dst v) W') : wpList Try.prog ops Q (o :: rest) a W :=
  wpList_step fun K' hK' => by
    rw [if_pos hg]
    unfold Oper.wp
    rw [hr]
    exact hK' _ _ hK
theorem wpList_build_fr {W : World} {ops : Array Oper} {rest : List Oper} {o : Oper} {a : Act} {Q : Exit → Act → World → Prop} (fr : Int) (hg : Region.wanted o (yielded ops a.tmps) = true) (p : Operand) (hop : o.op = Op.build 37 #[(0, p)]) (hp : a.eval p = .int .i64 fr)
    (hK : wpList Try.prog ops Q rest (a.put o.dst (.agg (entL fr (.slice none 0 0) (fun _ => 0)).toArray)) W) : wpList Try.prog ops Q (o :: rest) a W := by
  refine wpList_run hg ?_ hK
  have e : (Array.map (fun x => (x.fst, a.eval x.snd)) #[(0, p)] : Array (Nat × Value)) = #[(0, .int .i64 fr)] := by simp [hp]
  simp only [execOp, hop]
  rw [e, Sem.run_bind, build_fr]
  rfl
theorem wpList_build_ev {W : World} {ops : Array Oper} {rest : List Oper} {o : Oper} {a : Act} {Q : Exit → Act → World → Prop} (ad : Option Addr) (n c : Nat) (hg : Region.wanted o (yielded ops a.tmps) = true) (p : Operand) (hop : o.op = Op.build 37 #[(1, p)]) (hp : a.eval p = .slice ad n c)
    (hK : wpList Try.prog ops Q rest (a.put o.dst (.agg (entL 0 (.slice ad n c) (fun _ => 0)).toArray)) W) : wpList Try.prog ops Q (o :: rest) a W := by
  refine wpList_run hg ?_ hK
  have e : (Array.map (fun x => (x.fst, a.eval x.snd)) #[(1, p)] : Array (Nat × Value)) = #[(1, .slice ad n c)] := by simp [hp]
  simp only [execOp, hop]
  rw [e, Sem.run_bind, build_ev]
  rfl
theorem bs_ent (fr : Int) (sv : Value) (I : Nat → Int) (w : World) : (Instr.buildSlice 27 1 #[(0, .agg (entL fr sv I).toArray)]).run Try.prog w = .ok (.slice (some ⟨w.heap.size, 0, none⟩) 1 1) (w.alloc (Obj.cells (entL fr sv I).toArray 37)) := by kernel_rfl
theorem wpList_bs_ent {W : World} {ops : Array Oper} {rest : List Oper} {o : Oper} {a : Act} {Q : Exit → Act → World → Prop} (fr : Int) (sv : Value) (I : Nat → Int) (hg : Region.wanted o (yielded ops a.tmps) = true) (p : Operand) (hop : o.op = Op.buildSlice 27 1 #[(0, p)]) (hp : a.eval p = .agg (entL fr sv I).toArray)
    (hK : wpList Try.prog ops Q rest (a.put o.dst (.slice (some ⟨W.heap.size, 0, none⟩) 1 1)) (W.alloc (Obj.cells (entL fr sv I).toArray 37))) : wpList Try.prog ops Q (o :: rest) a W := by
  refine wpList_run hg ?_ hK
  have e : (Array.map (fun x => (x.fst, a.eval x.snd)) #[(0, p)] : Array (Nat × Value)) = #[(0, .agg (entL fr sv I).toArray)] := by simp [hp]
  simp only [execOp, hop]
  rw [e, Sem.run_bind, bs_ent]
  rfl
theorem store_new (fr : Int) (sv : Value) (I : Nat → Int) (h1 : (entL fr sv I).toArray.all (·.oneCell') = true) (w : World) (B : Nat) (hB : w.heap.size = B) :
    (storeCells ⟨B, 0, none⟩ (entL fr sv I)).run Try.prog (w.alloc (Obj.cells (entL 0 (.slice none 0 0) (fun _ => 0)).toArray 37)) = .ok () (w.alloc (Obj.cells (entL fr sv I).toArray 37)) :=
  run_store_new' _ _ _ w B hB (by rw [entL_len, List.size_toArray, entL_len]) h1
theorem fz_new (vs : List Value) (T : TypeId) (w : World) (k : Nat) : (w.alloc (Obj.cells vs.toArray T)).frozen? ⟨w.heap.size, k, none⟩ = false := by rw [World.frozen?_alloc_new]
theorem conv_bytes {w : World} {v : Value} {bs : List Int} (h : BytesV w v bs) (hn : 0 < bs.length) : (convert 28 9 v).run Try.prog w = .ok (.string (strOfNums bs)) w := by
  obtain ⟨a, cap, rfl, h1, h2, h3⟩ := h
  obtain ⟨b, o, rfl, -, h4⟩ := h3 hn
  exact run_convert_bytes_arg w 28 5 Try.underlying28 Try.underlying5 b o _ cap bs rfl h4 9 Try.underlying9
def tb : List Int := [7, 0, 0, 0, 0, 0]
theorem tb_by : ByteL tb := by
  intro i
  unfold zz tb
  rcases (by omega : i = 0 ∨ i = 1 ∨ i = 2 ∨ i = 3 ∨ i = 4 ∨ i = 5 ∨ 6 ≤ i) with rfl | rfl | rfl | rfl | rfl | rfl | h
  · decide
  · decide
  · decide
  · decide
  · decide
  · decide
  · rw [List.getD_eq_getElem?_getD, List.getElem?_eq_none (by simpa using h)]; decide
theorem put7 : putB 7 0 (gE tb) (fun _ => 0) = tb := rfl
theorem gI_tb : gI tb = fun _ => 0 := by
  funext k
  unfold gI
  have : gM tb = 0 := rfl
  rw [this, if_neg (by simp)]
theorem ok_tb : OkG tb := by
  refine ⟨by decide, ?_, ?_⟩
  · rw [gI_tb]; rfl
  · rw [gI_tb]; rfl
theorem not_ok_nil : ¬ OkG [] := fun h => by
  have := h.1
  unfold gTot at this
  simp at this
theorem OwnB.other {w w' : World} {B R : Nat} {v : Value} {bs : List Int} (h : OwnB w B v bs) (ho : Only R w w') (hR : R < B) : OwnB w' B v bs := by
  refine World.ownsRow.kept (row := some R) h ⟨ho.os, ho.tape, ho.output, Nat.le_of_eq ho.size.symm, fun k _ hk => ho.block k (fun e => hk (by rw [e]))⟩ ?_
  cases hv : v.ownBlock with
  | none => exact Or.inl rfl
  | some g => exact Or.inr (fun e => by have := (World.ownsRow.lt h g hv).1; injection e with e; omega)
theorem EvsV.zero {w w' : World} {sv : Value} {E E' : Nat → Nat → Int} (h : EvsV w sv 0 E) : EvsV w' sv 0 E' := by
  obtain ⟨a, cap, rfl, h1, h2, -⟩ := h
  exact ⟨a, cap, rfl, h1, h2, fun h => absurd h (by omega)⟩
theorem EntsV.one {w : World} {B : Nat} {fr : Int} {sv : Value} {n : Nat} {E : Nat → Nat → Int} {I : Nat → Int} (h : EntAt w B 0 fr sv I) (hs : EvsV w sv n E) : EntsV w (.slice (some ⟨B, 0, none⟩) 1 1) 1 (fun _ => ⟨fr, n, E, I⟩) :=
  ⟨_, _, rfl, Nat.le_refl _, by unfold maxLen; omega, fun _ => ⟨B, 0, rfl, h.lt, fun i hi => by
    obtain rfl : i = 0 := by omega
    exact ⟨sv, h, hs⟩⟩⟩
end Go.Proofs.Ytembppihfcclcaa

namespace Go.Proofs.Ytembppihfcclcaa
set_option linter.unusedVariables false
open Go.ChangeShapes Go.WideShapes Go.ChangeAt Go.RowKit

/-- The kind of the i-th cell of a plain type. -/
def kindAt (P : Program) : Nat → TypeId → Nat → Option IntKind
  | 0, _, _ => none
  | n + 1, t, i => match P.underlying t with
    | some (.int k) => if i = 0 then some k else none
    | some (.struct fs) => fs.toList.findSome? fun f => if f.offset ≤ i ∧ i < f.offset + P.cellsOf f.type then kindAt P n f.type (i - f.offset) else none
    | some (.array m e) => if i / P.cellsOf e < m ∧ 0 < P.cellsOf e then kindAt P n e (i % P.cellsOf e) else none
    | _ => none

theorem trod_plain_int {H : Type} {enc : TypeId × Value → H} {P : Program} {w : World} {base : Nat} {spare : Nat → Bool} {held : Bool} {n : Nat} {t : TypeId} {cs : List Value} {k : IntKind} {x : DataW H × List MemPlace}
    (ht : P.underlying t = some (.int k)) (h : DataW.trod enc P w base spare held n t cs = some x) : ∃ z, cs = [.int k z] ∧ (Lit.int k z).wf = true := by
  cases n with
  | zero => simp [DataW.trod] at h
  | succ n =>
    simp only [DataW.trod, ht] at h
    split at h
    all_goals first
      | (rename_i e1 e2; cases e1; done)
      | (rename_i e1; cases e1; done)
      | skip
    all_goals first
      | (simp at h; done)
      | skip
    rename_i k1 k2 m e1
    simp at e1
    subst e1
    split at h
    · rename_i hh
      obtain ⟨rfl, hw⟩ := hh
      exact ⟨_, rfl, hw⟩
    · simp at h

theorem trod_kind {H : Type} {enc : TypeId × Value → H} {P : Program} {w : World} {base : Nat} {spare : Nat → Bool} {held : Bool} :
    ∀ (n m : Nat) (t : TypeId) (cs : List Value) (x : DataW H × List MemPlace) (i : Nat) (k : IntKind), kindAt P n t i = some k → DataW.trod enc P w base spare held m t cs = some x → ∃ z, cs[i]? = some (.int k z) ∧ (Lit.int k z).wf = true := by
  intro n
  induction n with
  | zero => intro m t cs x i k h; simp [kindAt] at h
  | succ n ih =>
    intro m t cs x i k hk ht
    unfold kindAt at hk
    split at hk
    · rename_i q hq
      split at hk
      · rename_i hi
        injection hk with hk
        subst hi hk
        obtain ⟨z, rfl, hz⟩ := trod_plain_int hq ht
        exact ⟨z, rfl, hz⟩
      · cases hk
    · rename_i fs hfs
      obtain ⟨xs, n', _, _, hlen, hxl, hf⟩ := DataW.trod_struct hfs ht
      obtain ⟨f, hf1, hf2⟩ := List.exists_of_findSome?_eq_some hk
      split at hf2
      · rename_i hin
        obtain ⟨j, hj, hje⟩ := List.getElem_of_mem hf1
        have hj' : fs[j]? = some f := by
          rw [← Array.getElem?_toList]; rw [List.getElem?_eq_getElem hj, hje]
        have h1 := hf j f hj'
        have hjl : j < xs.length := by rw [hxl]; exact (Array.getElem?_eq_some_iff.1 hj').1
        rw [List.getElem?_eq_getElem hjl] at h1
        obtain ⟨z, hz, hw⟩ := ih _ _ _ _ _ _ hf2 h1
        refine ⟨z, ?_, hw⟩
        rw [List.getElem?_take] at hz
        split at hz
        · rw [List.getElem?_drop] at hz
          rwa [show f.offset + (i - f.offset) = i from by omega] at hz
        · cases hz
      · cases hf2
    · rename_i c e hce
      split at hk
      · rename_i hin
        obtain ⟨xs, n', _, _, hlen, hxl, hf⟩ := DataW.trod_array hce ht
        have h1 := hf (i / P.cellsOf e) hin.1
        rw [List.getElem?_eq_getElem (by omega)] at h1
        obtain ⟨z, hz, hw⟩ := ih _ _ _ _ _ _ hk h1
        refine ⟨z, ?_, hw⟩
        rw [List.getElem?_take] at hz
        split at hz
        · rw [List.getElem?_drop] at hz
          rwa [show i / P.cellsOf e * P.cellsOf e + i % P.cellsOf e = i from by rw [Nat.mul_comm]; exact Nat.div_add_mod i _] at hz
        · cases hz
      · cases hk
    · cases hk

theorem wf_bounds {k : IntKind} {z : Int} (h : (Lit.int k z).wf = true) : k.min ≤ z ∧ z ≤ k.max := by
  simpa [Lit.wf] using h

theorem bd_i8 {z : Int} (h : IntKind.i8.min ≤ z ∧ z ≤ IntKind.i8.max) : -128 ≤ z ∧ z ≤ 127 := h
theorem bd_u8 {z : Int} (h : IntKind.u8.min ≤ z ∧ z ≤ IntKind.u8.max) : 0 ≤ z ∧ z ≤ 255 := h
theorem bd_u16 {z : Int} (h : IntKind.u16.min ≤ z ∧ z ≤ IntKind.u16.max) : 0 ≤ z ∧ z ≤ 65535 := h
theorem bd_u32 {z : Int} (h : IntKind.u32.min ≤ z ∧ z ≤ IntKind.u32.max) : 0 ≤ z ∧ z ≤ 4294967295 := h
theorem bd_i64 {z : Int} (h : IntKind.i64.min ≤ z ∧ z ≤ IntKind.i64.max) : -9223372036854775808 ≤ z ∧ z ≤ 9223372036854775807 := h
theorem bd_u64 {z : Int} (h : IntKind.u64.min ≤ z ∧ z ≤ IntKind.u64.max) : 0 ≤ z ∧ z ≤ 18446744073709551615 := h
theorem cell_lt0 {w : World} {b o : Nat} {v : Value} (h : w.cell? ⟨b, o, none⟩ = some v) : b < w.heap.size := by
  cases Nat.lt_or_ge b w.heap.size with
  | inl hl => exact hl
  | inr hg =>
    have : w.heap[b]? = none := Array.getElem?_eq_none (by omega)
    simp [World.cell?, this] at h

/-- A slice of elements of c cells each that came in; kinds: what kind the j-th cell of an element is of. -/
def IsRows (kinds : List IntKind) (w : World) (v : Value) : Prop :=
  ∃ a len cap, v = .slice a len cap ∧ len ≤ cap ∧ cap ≤ maxLen ∧ (0 < len → ∃ b o, ∃ z : Nat → Nat → Int, a = some ⟨b, o, none⟩ ∧ b < w.heap.size ∧
    ∀ i, i < len → ∀ j k, kinds[j]? = some k → w.cell? ⟨b, o + (i * kinds.length + j), none⟩ = some (.int k (z i j)) ∧ k.min ≤ z i j ∧ z i j ≤ k.max)

theorem open_rows_sl {H : Type} {enc : TypeId × Value → H} {P : Program} {W : World} {t e : TypeId} {a : Option Addr} {len cap : Nat} {d : DataW H} {p : List MemPlace} (kinds : List IntKind) (ht : P.underlying t = some (.slice e)) (hc : P.cellsOf e = kinds.length) (hpos : 0 < kinds.length)
    (hk : (List.range kinds.length).all (fun j => kindAt P 8 e j == kinds[j]?) = true)
    (h : DataW.Trod enc P W 0 (fun _ => true) true t (.slice a len cap) d p) : IsRows kinds W (.slice a len cap) := by
  obtain ⟨fuel, hf⟩ := h
  rcases Deep.open_slice ht hf with ⟨hcs, _⟩ | ⟨x, l, c, m, n, D, Pl, hcs, _, hl, hm, hmm, _, hx⟩
  · simp [Value.cells] at hcs
    obtain ⟨rfl, rfl, rfl⟩ := hcs
    exact ⟨none, 0, 0, rfl, Nat.le_refl _, Nat.zero_le _, fun h => absurd h (by omega)⟩
  · simp [Value.cells] at hcs
    obtain ⟨rfl, rfl, rfl⟩ := hcs
    refine ⟨_, _, _, rfl, hl, hm, fun h0 => ?_⟩
    have hmc : m = cap := by simpa using hmm
    have each : ∀ i, i < len → ∀ j k, kinds[j]? = some k → ∃ z, W.cell? (x.add (i * kinds.length + j)) = some (.int k z) ∧ k.min ≤ z ∧ z ≤ k.max := fun i hi j k hjk => by
      obtain ⟨cs', hcs', htr⟩ := hx i (by omega)
      have hj : j < kinds.length := (List.getElem?_eq_some_iff.1 hjk).1
      have hkj : kindAt P 8 e j = some k := by
        have := List.all_eq_true.1 hk j (List.mem_range.2 hj)
        rw [hjk] at this
        exact eq_of_beq this
      obtain ⟨z, hz, hw⟩ := trod_kind 8 _ e cs' _ j k hkj htr
      obtain ⟨_, hcl, hat⟩ := World.cells?_some hcs'
      refine ⟨z, ?_, wf_bounds hw⟩
      have h1 := hat j (by rw [hc]; exact hj)
      rw [hz, hc] at h1
      rw [← Go.Deep.add_add]
      exact h1
    obtain ⟨b, o, s⟩ := x
    obtain ⟨k0, hk0⟩ : ∃ k, kinds[0]? = some k := ⟨kinds[0], List.getElem?_eq_getElem hpos⟩
    obtain ⟨z0, hz0, _⟩ := each 0 h0 0 k0 hk0
    have hs : s = none := by simpa [Addr.add] using World.cell?_spot hz0
    subst hs
    rw [Go.WideShapes.add_plain] at hz0
    have each2 : ∀ i, i < len → ∀ j k, kinds[j]? = some k → ∃ z, W.cell? ⟨b, o + (i * kinds.length + j), none⟩ = some (.int k z) ∧ k.min ≤ z ∧ z ≤ k.max := fun i hi j k hjk => by
      have := each i hi j k hjk
      rwa [Go.WideShapes.add_plain] at this
    refine ⟨b, o, fun i j => if hij : i < len ∧ j < kinds.length then (each2 i hij.1 j _ (List.getElem?_eq_getElem hij.2)).choose else 0, rfl, cell_lt0 hz0, fun i hi j k hjk => ?_⟩
    have hj : j < kinds.length := (List.getElem?_eq_some_iff.1 hjk).1
    have hkk : kinds[j] = k := by rw [List.getElem?_eq_getElem hj] at hjk; injection hjk
    subst hkk
    simp only [hi, hj, and_self, dif_pos]
    exact (each2 i hi j _ hjk).choose_spec

theorem open_rows {H : Type} {enc : TypeId × Value → H} {P : Program} {W : World} {r : Reach} {b0 : Nat} {t e : TypeId} {v : Value} {d : DataW H} {p : List MemPlace} (kinds : List IntKind) (ht : P.underlying t = some (.slice e)) (hc : P.cellsOf e = kinds.length) (hpos : 0 < kinds.length)
    (hk : (List.range kinds.length).all (fun j => kindAt P 8 e j == kinds[j]?) = true)
    (hv : Value.okWide P W r b0 t v) (h : DataW.Trod enc P W 0 (fun _ => true) true t v d p) : IsRows kinds W v := by
  obtain ⟨a, len, cap, rfl⟩ := okWide_slice ht hv
  exact open_rows_sl kinds ht hc hpos hk h

/-- A plain value of several cells that came in. -/
def IsPlain (kinds : List IntKind) (v : Value) : Prop :=
  ∃ z : Nat → Int, v = .agg ((List.range kinds.length).map fun j => Value.int (kinds.getD j .i64) (z j)).toArray ∧ ∀ j k, kinds[j]? = some k → k.min ≤ z j ∧ z j ≤ k.max

theorem open_plain {H : Type} {enc : TypeId × Value → H} {P : Program} {W : World} {t : TypeId} {cs : Array Value} {d : DataW H} {p : List MemPlace} (kinds : List IntKind) (hc : cs.size = kinds.length)
    (hk : (List.range kinds.length).all (fun j => kindAt P 8 t j == kinds[j]?) = true)
    (h : DataW.Trod enc P W 0 (fun _ => true) true t (.agg cs) d p) : IsPlain kinds (.agg cs) := by
  obtain ⟨fuel, hf⟩ := h
  have each : ∀ (j : Nat) (k : IntKind), kinds[j]? = some k → ∃ z, cs[j]? = some (.int k z) ∧ k.min ≤ z ∧ z ≤ k.max := fun j k hjk => by
    have hj : j < kinds.length := (List.getElem?_eq_some_iff.1 hjk).1
    have hkj : kindAt P 8 t j = some k := by
      have := List.all_eq_true.1 hk j (List.mem_range.2 hj)
      rw [hjk] at this
      exact eq_of_beq this
    obtain ⟨z, hz, hw⟩ := trod_kind 8 _ t _ _ j k hkj hf
    refine ⟨z, ?_, wf_bounds hw⟩
    rw [← Array.getElem?_toList]
    simpa [Value.cells] using hz
  obtain ⟨z, hz⟩ : ∃ z : Nat → Int, ∀ (j : Nat) (k : IntKind), kinds[j]? = some k → cs[j]? = some (.int k (z j)) ∧ k.min ≤ z j ∧ z j ≤ k.max := by
    refine ⟨fun j => if hj : j < kinds.length then (each j _ (List.getElem?_eq_getElem hj)).choose else 0, fun j k hjk => ?_⟩
    have hj : j < kinds.length := (List.getElem?_eq_some_iff.1 hjk).1
    have hkk : kinds[j] = k := by rw [List.getElem?_eq_getElem hj] at hjk; injection hjk
    subst hkk
    simp only [hj, dif_pos]
    exact (each j _ hjk).choose_spec
  refine ⟨z, ?_, fun j k hjk => (hz j k hjk).2⟩
  congr 1
  apply Array.ext_getElem?
  intro j
  by_cases hj : j < kinds.length
  · rw [(hz j _ (List.getElem?_eq_getElem hj)).1, List.getElem?_toArray, List.getElem?_map, List.getElem?_range hj]
    simp [hj]
  · rw [Array.getElem?_eq_none (by omega), List.getElem?_toArray, List.getElem?_eq_none (by simp; omega)]
end Go.Proofs.Ytembppihfcclcaa

namespace Go.Proofs.Ytembppihfcclcaa
set_option linter.unusedVariables false
open Go.ChangeShapes Go.WideShapes Go.ChangeAt Go.RowKit

structure EntB (fr : Int) (n : Nat) (E : Nat → Nat → Int) (I : Nat → Int) : Prop where
  fr : -9223372036854775808 ≤ fr ∧ fr ≤ 9223372036854775807
  ev : ∀ i, i < n → ∀ j, j < 4 → -9223372036854775808 ≤ E i j ∧ E i j ≤ 9223372036854775807
  xy : ∀ k, k < 24 → k % 3 ≠ 2 → -128 ≤ I k ∧ I k ≤ 127
  b : ∀ k, k < 24 → k % 3 = 2 → 0 ≤ I k ∧ I k ≤ 255
def IsEnt (w : World) (v : Value) : Prop := ∃ fr sv n E I, v = .agg (entL fr sv I).toArray ∧ EvsV w sv n E ∧ EntB fr n E I
theorem open_rows_cs {H : Type} {enc : TypeId × Value → H} {P : Program} {W : World} {t e : TypeId} {fuel : Nat} {cs : List Value} {x : DataW H × List MemPlace} (kinds : List IntKind) (ht : P.underlying t = some (.slice e)) (hc : P.cellsOf e = kinds.length) (hpos : 0 < kinds.length)
    (hk : (List.range kinds.length).all (fun j => kindAt P 8 e j == kinds[j]?) = true)
    (hf : DataW.trod enc P W 0 (fun _ => true) true fuel t cs = some x) : ∃ v, cs = [v] ∧ IsRows kinds W v := by
  have hf' := hf
  obtain ⟨d, p⟩ := x
  rcases Deep.open_slice ht hf with ⟨hcs, _⟩ | ⟨x, l, c, m, n, D, Pl, hcs, _⟩
  · exact ⟨_, hcs, none, 0, 0, rfl, Nat.le_refl _, Nat.zero_le _, fun h => absurd h (by omega)⟩
  · refine ⟨_, hcs, ?_⟩
    subst hcs
    exact open_rows_sl kinds ht hc hpos hk ⟨fuel, hf'⟩
def k4 : List IntKind := [.i64, .i64, .i64, .i64]
theorem rows_evs {w : World} {v : Value} (h : IsRows k4 w v) : ∃ n E, EvsV w v n E ∧ ∀ i, i < n → ∀ j, j < 4 → -9223372036854775808 ≤ E i j ∧ E i j ≤ 9223372036854775807 := by
  obtain ⟨a, n, cap, rfl, h1, h2, h3⟩ := h
  by_cases hn : 0 < n
  · obtain ⟨b, o, z, rfl, hb, hc⟩ := h3 hn
    have hk : ∀ j, j < 4 → k4[j]? = some .i64 := fun j hj => by rcases (by omega : j = 0 ∨ j = 1 ∨ j = 2 ∨ j = 3) with rfl | rfl | rfl | rfl <;> rfl
    refine ⟨n, z, ⟨_, cap, rfl, h1, h2, fun _ => ⟨b, o, rfl, hb, ⟨fun i hi => ?_, fun i hi => ?_, fun i hi => ?_, fun i hi => ?_⟩⟩⟩, fun i hi j hj => (hc i hi j .i64 (hk j hj)).2⟩
    · exact (hc i hi 0 .i64 rfl).1
    · exact (hc i hi 1 .i64 rfl).1
    · exact (hc i hi 2 .i64 rfl).1
    · exact (hc i hi 3 .i64 rfl).1
  · exact ⟨n, fun _ _ => 0, ⟨_, cap, rfl, h1, h2, fun h => absurd h hn⟩, fun i hi => absurd hi (by omega)⟩
def kEnt (k : Nat) : Option IntKind := if k = 0 then some .i64 else if k = 1 then none else if k < 26 then (if k % 3 = 1 then some .u8 else some .i8) else none
set_option maxRecDepth 100000 in
theorem open_ent {H : Type} {enc : TypeId × Value → H} {W : World} {b0 : Nat} {x : Value} {d : DataW H} {p : List MemPlace} (hv : Value.okWide Try.prog W .any b0 37 x) (h : DataW.Trod enc Try.prog W 0 (fun _ => true) true 37 x d p) : IsEnt W x := by
  obtain ⟨cs, rfl, hsz⟩ := okWide_struct Try.underlying37 hv
  have hsz26 : cs.size = 26 := hsz.trans (by kernel_rfl)
  obtain ⟨fuel, hf⟩ := h
  have hcells : (Value.agg cs).cells.toList = cs.toList := rfl
  have hk : ∀ k, k < 26 → k ≠ 1 → kindAt Try.prog 8 37 k = kEnt k := by
    have h0 : (List.range 26).all (fun k => k == 1 || kindAt Try.prog 8 37 k == kEnt k) = true := by kernel_rfl
    intro k hk h1
    have := List.all_eq_true.1 h0 k (List.mem_range.2 hk)
    rw [Bool.or_eq_true] at this
    rcases this with h | h
    · exact absurd (eq_of_beq h) h1
    · exact eq_of_beq h
  have each : ∀ k kd, k < 26 → k ≠ 1 → kEnt k = some kd → ∃ z, cs[k]? = some (.int kd z) ∧ kd.min ≤ z ∧ z ≤ kd.max := fun k kd hk26 h1 hkd => by
    obtain ⟨z, hz, hw⟩ := trod_kind 8 _ 37 _ _ k kd ((hk k hk26 h1).trans hkd) hf
    refine ⟨z, ?_, wf_bounds hw⟩
    rw [← Array.getElem?_toList]
    exact hz
  obtain ⟨xs, n', _, _, hlen, hxl, hfs⟩ := DataW.trod_struct Try.underlying37 hf
  have hf1 := hfs 1 _ rfl
  have hxs : 1 < xs.length := by rw [hxl]; decide
  rw [List.getElem?_eq_getElem hxs] at hf1
  obtain ⟨sv, hsv, hrows⟩ := open_rows_cs k4 Try.underlying31 (by kernel_rfl) (by decide) (by kernel_rfl) hf1
  have hsv2 : List.take (Try.prog.cellsOf 31) (List.drop 1 cs.toList) = [sv] := hsv
  rw [show Try.prog.cellsOf 31 = 1 by kernel_rfl] at hsv2
  have h1 : cs[1]? = some sv := by
    have := congrArg (fun l => l[0]?) hsv2
    rw [← Array.getElem?_toList]
    simpa [List.getElem?_take, List.getElem?_drop] using this
  clear hsv hsv2 hf1 hfs hxs hxl hlen hf hcells hk
  have hex : ∀ k, ∃ z : Int, ∀ kd, k < 26 → k ≠ 1 → kEnt k = some kd → cs[k]? = some (.int kd z) ∧ kd.min ≤ z ∧ z ≤ kd.max := fun k => by
    by_cases hk : k < 26 ∧ k ≠ 1
    · cases hkd : kEnt k with
      | none => exact ⟨0, fun kd _ _ h => by cases h⟩
      | some kd =>
        obtain ⟨z, hz⟩ := each k kd hk.1 hk.2 hkd
        exact ⟨z, fun kd' _ _ h => by injection h with h; subst h; exact hz⟩
    · exact ⟨0, fun kd a b => absurd ⟨a, b⟩ hk⟩
  obtain ⟨Z, hZ⟩ := Classical.axiomOfChoice hex
  have kE : ∀ k, k < 24 → kEnt (k + 2) = some (if k % 3 = 2 then .u8 else .i8) := fun k hk => by
    unfold kEnt
    rw [if_neg (by omega), if_neg (by omega), if_pos (by omega)]
    by_cases h : k % 3 = 2
    · rw [if_pos h, if_pos (by omega)]
    · rw [if_neg h, if_neg (by omega)]
  obtain ⟨n, E, hE, hb⟩ := rows_evs hrows
  refine ⟨Z 0, sv, n, E, fun k => Z (k + 2), ?_, hE, ⟨?_, hb, ?_, ?_⟩⟩
  · congr 1
    apply Array.ext_getElem?
    intro k
    have e : (entL (Z 0) sv fun k => Z (k + 2)).toArray[k]? = (entL (Z 0) sv fun k => Z (k + 2))[k]? := List.getElem?_toArray
    rw [e]
    by_cases hk : k < 26
    · rw [entL_get _ _ _ _ hk]
      unfold entF inpV
      by_cases h0 : k = 0
      · subst h0; rw [if_pos rfl]; exact (hZ 0 .i64 (by omega) (by omega) rfl).1
      · by_cases h1' : k = 1
        · subst h1'; rw [if_neg (by omega), if_pos rfl]; exact h1
        · rw [if_neg h0, if_neg h1']
          have := (hZ k _ hk h1' (by have := kE (k - 2) (by omega); rwa [show k - 2 + 2 = k by omega] at this)).1
          rw [this]
          show _ = some (Value.int _ (Z (k - 2 + 2)))
          rw [show k - 2 + 2 = k by omega]
    · rw [Array.getElem?_eq_none (by omega), List.getElem?_eq_none (by rw [entL_len]; omega)]
  · exact bd_i64 (hZ 0 .i64 (by omega) (by omega) rfl).2
  · intro k hk h3
    have := (hZ (k + 2) _ (by omega) (by omega) (kE k hk)).2
    rw [if_neg h3] at this
    exact bd_i8 this
  · intro k hk h3
    have := (hZ (k + 2) _ (by omega) (by omega) (kE k hk)).2
    rw [if_pos h3] at this
    exact bd_u8 this
def IsEv (w : World) (v : Value) : Prop := ∃ k s g p : Int, v = .agg #[.int .i64 k, .int .i64 s, .int .i64 g, .int .i64 p]
set_option maxRecDepth 100000 in
theorem open_ev {H : Type} {enc : TypeId × Value → H} {W : World} {b0 : Nat} {x : Value} {d : DataW H} {p : List MemPlace} (hv : Value.okWide Try.prog W .any b0 43 x) (h : DataW.Trod enc Try.prog W 0 (fun _ => true) true 43 x d p) : IsEv W x := by
  obtain ⟨cs, rfl, hsz⟩ := okWide_struct Try.underlying43 hv
  obtain ⟨z, hz, -⟩ := open_plain [.i64, .i64, .i64, .i64] (hsz.trans (by kernel_rfl)) (by kernel_rfl) h
  exact ⟨z 0, z 1, z 2, z 3, hz⟩
end Go.Proofs.Ytembppihfcclcaa
