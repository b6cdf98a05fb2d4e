/-
  Entry: Get, walked.
-/
import Derived.Test.YtembppihfcclcaaJ3
namespace Go.Proofs.Ytembppihfcclcaa
set_option linter.unusedVariables false
open Go.ChangeShapes Go.WideShapes Go.ChangeAt Go.RowKit

set_option maxHeartbeats 4000000 in
theorem get_any (v : Value) (bs : List Int) (w : World) (hv : BytesV w v bs) (hby : ByteL bs) :
    Calls Try.prog 67 #[v] w fun e w' => GetPost w.heap.size bs e w' ∧ Below w.heap.size w w' := by
  have hmf : ∀ (fn : Fn) (first cap : Array Value) (w : World), (Instr.makeFunc fn first cap).run Try.prog w = .ok (.func fn first cap) w := fun _ _ _ _ => rfl
  have hv0 := hv
  obtain ⟨a, cap, rfl, hnc, hcm, hev⟩ := hv
  have hbo : ∃ b o, (0 < bs.length → a = some ⟨b, o, none⟩) ∧ (0 < bs.length → b < w.heap.size ∧ BytesAt w b o bs) := by
    by_cases h : 0 < bs.length
    · obtain ⟨b, o, h1, h2, h3⟩ := hev h
      exact ⟨b, o, fun _ => h1, fun _ => ⟨h2, h3⟩⟩
    · exact ⟨0, 0, fun h' => absurd h' h, fun h' => absurd h' h⟩
  obtain ⟨b, o, ha, hbs⟩ := hbo
  have HG := Lib.hid (gs_start w bs a b o cap ha hnc hcm (gE bs))
  have HBS := Lib.hid hbs
  have HV := Lib.hid hv0
  have HBY := Lib.hid hby
  have hle4 := le4 _ _ _ _ (hby 0) (hby 1) (hby 2) (hby 3)
  have HTot : Hid (∀ i, bs.length ≤ i → i < 6 + 5 * gN bs → bs.length < gTot bs) := Lib.hid (fun i h1 h2 => by unfold gTot; omega)
  clear ha hev hbs hv0 hby
  unfold GW at HG
  go_enter_defers Try.func67, Try.ntmps67
  go_wp2_with fail
  generalize (((w.alloc (Obj.cells #[.int .i64 0, .slice none 0 0, .int .i8 0, .int .i8 0, .int .u8 0, .int .i8 0, .int .i8 0, .int .u8 0, .int .i8 0, .int .i8 0, .int .u8 0, .int .i8 0, .int .i8 0, .int .u8 0, .int .i8 0, .int .i8 0, .int .u8 0, .int .i8 0, .int .i8 0, .int .u8 0, .int .i8 0, .int .i8 0, .int .u8 0, .int .i8 0, .int .i8 0, .int .u8 0] 37)).alloc (Obj.cells #[.int .i64 0] 3)).alloc (Obj.cells #[.slice a bs.length cap] 107)) = w1 at *
  refine (get_byte 1 rfl HBY.out HBS.out HG.out).mono ?_
  rintro e w2 (⟨l0, rfl, hg⟩ | ⟨l0, rfl, hg⟩)
  rotate_left
  · have HG' := Lib.hid hg
    go_wp2_with fail
    exact get_short HG'.out (HTot.out _ l0 (by omega)) _ rfl rfl
  replace HG := Lib.hid hg
  clear hg
  go_wp2_with fail
  refine (get_byte 2 rfl HBY.out HBS.out HG.out).mono ?_
  rintro e w3 (⟨l1, rfl, hg⟩ | ⟨l1, rfl, hg⟩)
  rotate_left
  · have HG' := Lib.hid hg
    go_wp2_with fail
    exact get_short HG'.out (HTot.out _ l1 (by omega)) _ rfl rfl
  replace HG := Lib.hid hg
  clear hg
  go_wp2_with fail
  refine (get_byte 3 rfl HBY.out HBS.out HG.out).mono ?_
  rintro e w4 (⟨l2, rfl, hg⟩ | ⟨l2, rfl, hg⟩)
  rotate_left
  · have HG' := Lib.hid hg
    go_wp2_with fail
    exact get_short HG'.out (HTot.out _ l2 (by omega)) _ rfl rfl
  replace HG := Lib.hid hg
  clear hg
  go_wp2_with fail
  refine (get_byte 4 rfl HBY.out HBS.out HG.out).mono ?_
  rintro e w5 (⟨l3, rfl, hg⟩ | ⟨l3, rfl, hg⟩)
  rotate_left
  · have HG' := Lib.hid hg
    go_wp2_with fail
    exact get_short HG'.out (HTot.out _ l3 (by omega)) _ rfl rfl
  replace HG := Lib.hid hg
  have c0 := hg.ent.z0
  have f0 : w5.frozen? ⟨w.heap.size, 0, none⟩ = false := (hg.th 0 (by omega)).2
  have hg2 : GS w bs b o cap 4 (gFr bs) (.slice none 0 0) 0 (gE bs) (fun _ => 0) (w5.setCell ⟨w.heap.size, 0, none⟩ (.int .i64 (zz bs 0 + zz bs 1 * 256 + zz bs 2 * 65536 + zz bs 3 * 16777216))) := hg.setFr
  replace HG := Lib.hid hg2
  clear hg hg2
  go_wp2_with fail
  clear c0 f0 hle4
  generalize w5.setCell ⟨w.heap.size, 0, none⟩ (.int .i64 (zz bs 0 + zz bs 1 * 256 + zz bs 2 * 65536 + zz bs 3 * 16777216)) = w5' at *
  refine (get_byte 5 rfl HBY.out HBS.out HG.out).mono ?_
  rintro e w6 (⟨l4, rfl, hg⟩ | ⟨l4, rfl, hg⟩)
  rotate_left
  · have HG' := Lib.hid hg
    go_wp2_with fail
    exact get_short HG'.out (HTot.out _ l4 (by omega)) _ rfl rfl
  replace HG := Lib.hid hg
  clear hg l0 l1 l2 l3
  have hN : zz bs 4 = (gN bs : Int) := by have := HBY.out 4; unfold gN; omega
  rw [hN]
  go_wp2_with fail
  clear hN l4
  go_loopw [5] (fun i wr => ∃ k m : Nat, ∃ sv : Value, k + m = gN bs ∧ i = .int .i64 k ∧ GS w bs b o cap (5 + 5 * m) (gFr bs) sv m (gE bs) (fun _ => 0) wr) (fun i _ => (intOf i).toNat)
  case atStart => exact ⟨gN bs, 0, _, rfl, rfl, HG.out⟩
  case round =>
    obtain ⟨k, m, sv, hkm, rfl, hg⟩ := hrel
    clear HG
    have HG := Lib.hid hg
    rcases k with _ | k
    · have hmN : m = gN bs := by omega
      subst hmN
      clear hkm hg
      go_wp2_with fail
      refine (get_byte (6 + 5 * gN bs) (by omega) HBY.out HBS.out HG.out).mono ?_
      rintro e w7 (⟨l5, rfl, hg⟩ | ⟨l5, rfl, hg⟩)
      rotate_left
      · have HG' := Lib.hid hg
        go_wp2_with fail
        exact get_short HG'.out (HTot.out _ l5 (by omega)) _ rfl rfl
      replace HG := Lib.hid hg
      clear hg l5
      have hM : zz bs (5 + 5 * gN bs) = (gM bs : Int) := by have := HBY.out (5 + 5 * gN bs); unfold gM; omega
      rw [hM]
      clear hM
      go_wp2_with fail
      go_loopw [55] (fun i wr => ∃ s : Nat, s ≤ 8 ∧ i = .int .i64 s ∧ GS w bs b o cap (6 + 5 * gN bs + 3 * gcnt (gM bs) s) (gFr bs) sv (gN bs) (gE bs) (gIs bs s) wr) (fun i _ => 8 - (intOf i).toNat)
      case atStart => exact ⟨0, by omega, rfl, HG.out⟩
      case round =>
        obtain ⟨s, hs, rfl, hg⟩ := hrel
        clear HG
        have HG := Lib.hid hg
        clear hg
        by_cases hlt : s < 8
        · have hbt := bit_test (gM bs) s (gM_lt HBY.out) hlt
          rcases htb : (gM bs).testBit s with _ | _
          · rw [htb] at hbt
            have HE : Hid (GS w bs b o cap (6 + 5 * gN bs + 3 * gcnt (gM bs) (s + 1)) (gFr bs) sv (gN bs) (gE bs) (gIs bs (s + 1)) wr) := Lib.hid (by rw [gcnt_no _ _ htb, gIs_no _ _ htb]; exact HG.out)
            go_wp2_with fail
            exact ⟨⟨s + 1, by omega, rfl, HE.out⟩, by show 8 - (s + 1) < 8 - s; omega⟩
          · rw [htb] at hbt
            have hgm := gcnt_mono (gM bs) (s + 1) 8 (by omega)
            have hgy := gcnt_yes _ _ htb
            have hgI := gIs_yes bs s htb
            obtain ⟨q0, hq0⟩ : ∃ q, 6 + 5 * gN bs + 3 * gcnt (gM bs) s = q := ⟨_, rfl⟩
            have hq3 : 6 + 5 * gN bs + 3 * gcnt (gM bs) (s + 1) = q0 + 3 := by omega
            have HTq : Hid (∀ q, bs.length ≤ q → q < q0 + 3 → bs.length < gTot bs) := Lib.hid (fun q h1 h2 => by unfold gTot; omega)
            rw [hq0] at HG hgI
            have HQ3 := Lib.hid hq3
            have HGI := Lib.hid hgI
            clear hgm hgy hgI hq0 hq3
            go_wp2_with fail
            refine (get_byte (q0 + 1) rfl HBY.out HBS.out HG.out).mono ?_
            rintro e v0 (⟨l, rfl, hg⟩ | ⟨l, rfl, hg⟩)
            rotate_left
            · have HG' := Lib.hid hg
              go_wp2_with fail
              exact get_short HG'.out (HTq.out _ l (by omega)) _ rfl rfl
            clear l
            replace HG := Lib.hid hg
            clear hg
            go_wp2_with fail
            refine (get_byte (q0 + 2) rfl HBY.out HBS.out HG.out).mono ?_
            rintro e v1 (⟨l, rfl, hg⟩ | ⟨l, rfl, hg⟩)
            rotate_left
            · have HG' := Lib.hid hg
              go_wp2_with fail
              exact get_short HG'.out (HTq.out _ l (by omega)) _ rfl rfl
            clear l
            replace HG := Lib.hid hg
            clear hg
            go_wp2_with fail
            refine (get_byte (q0 + 3) rfl HBY.out HBS.out HG.out).mono ?_
            rintro e v2 (⟨l, rfl, hg⟩ | ⟨l, rfl, hg⟩)
            rotate_left
            · have HG' := Lib.hid hg
              go_wp2_with fail
              exact get_short HG'.out (HTq.out _ l (by omega)) _ rfl rfl
            clear l
            replace HG := Lib.hid hg
            clear hg
            have hin := HG.out.ent.inps
            have c0 := hin.x s hlt
            have c1 := hin.y s hlt
            have c2 := hin.z s hlt
            have f0 : v2.frozen? ⟨w.heap.size, 2 + s * 3, none⟩ = false := by have := (HG.out.th (2 + s * 3) (by omega)).2; rwa [Nat.zero_add] at this
            have f1 : v2.frozen? ⟨w.heap.size, 2 + s * 3 + 1, none⟩ = false := by have := (HG.out.th (2 + s * 3 + 1) (by omega)).2; rwa [Nat.zero_add] at this
            have f2 : v2.frozen? ⟨w.heap.size, 2 + s * 3 + 2, none⟩ = false := by have := (HG.out.th (2 + s * 3 + 2) (by omega)).2; rwa [Nat.zero_add] at this
            clear hin
            have w0 := i8_sgn _ (HBY.out q0)
            have w1 := i8_sgn _ (HBY.out (q0 + 1))
            have w2 : zz bs (q0 + 2) % 256 = zz bs (q0 + 2) := by have := HBY.out (q0 + 2); omega
            have hE := HG.out.set3 s hlt (sgn (zz bs q0)) (sgn (zz bs (q0 + 1))) (zz bs (q0 + 2))
            rw [← HGI.out, ← HQ3.out] at hE
            have HE := Lib.hid hE
            clear hE
            go_wp2_with fail
            refine ⟨⟨s + 1, by omega, rfl, ?_⟩, by show 8 - (s + 1) < 8 - s; omega⟩
            first | exact HE.out | (rw [w0, w1, w2]; exact HE.out)
        · obtain rfl : s = 8 := by omega
          have hG2 := HG.out.congr (fun k hk => gIs_all bs k hk)
          replace HG := Lib.hid hG2
          have hgN := gN_lt HBY.out
          clear hG2
          have HV2 := Lib.hid (HV.out.below HG.out.bel (Nat.le_refl _))
          rcases hmay : mayE (gFr bs) (gN bs) (gE bs) (gI bs) with _ | _
          · have HNo : Hid (¬ OkG bs) := Lib.hid (fun h => by have h2 := h.2.1; rw [hmay] at h2; cases h2)
            go_wp2_with (refine wpList_load_g (by rfl) 37 _ rfl w.heap.size 0 rfl _ _ HG.out.ent.range Try.underlying37 rfl (size_ent _ _ _) ?_)
            refine (put_no (gFr bs) sv (gN bs) (gE bs) (gI bs) _ HG.out.own.evs hmay).mono ?_
            rintro e w9 ⟨rfl, hb9⟩
            replace HG := Lib.hid (HG.out.below hb9 (Nat.le_refl _))
            clear hb9 hmay
            go_wp2_with fail
            exact get_bad HG.out _ rfl rfl _ (fun w' hb => ⟨Or.inr ⟨HNo.out, rfl⟩, hb⟩)
          · go_wp2_with (refine wpList_load_g (by rfl) 37 _ rfl w.heap.size 0 rfl _ _ HG.out.ent.range Try.underlying37 rfl (size_ent _ _ _) ?_)
            refine (put_yes (gFr bs) sv (gN bs) (gE bs) (gI bs) _ HG.out.own.evs (by omega) hmay).mono ?_
            rintro e w9 ⟨⟨v, rfl, hO⟩, hb9⟩
            replace HG := Lib.hid (HG.out.below hb9 (Nat.le_refl _))
            have HO := Lib.hid (hO.bytes (by have := putB_pos (gFr bs) (gN bs) (gE bs) (gI bs); omega))
            have HV3 := Lib.hid (HV2.out.below hb9 (Nat.le_refl _))
            clear hb9 hO HV2
            go_wp2_with fail
            refine (eqByte_any v (.slice a bs.length cap) _ bs _ HO.out HV3.out).mono ?_
            rintro e w10 ⟨rfl, hb10⟩
            replace HG := Lib.hid (HG.out.below hb10 (Nat.le_refl _))
            clear hb10 HO HV3
            by_cases heq : putB (gFr bs) (gN bs) (gE bs) (gI bs) = bs
            · rw [decide_eq_true heq]
              have hle := HG.out.rd.le
              have HOk : Hid (OkG bs) := Lib.hid ⟨hle, hmay, heq⟩
              have hst := store_ent_there (gFr bs) sv (gI bs) (HG.out.own.evs.one _ _) w10 w.heap.size HG.out.th
              have hgb := HG.out.back
              generalize w10.setCells w.heap.size 0 (entL (gFr bs) sv (gI bs)) = w11 at *
              have c3 := hgb.c3
              have f3 := hgb.f3
              have HGE := Lib.hid hgb.code
              clear heq hmay hle hgb
              go_wp2_with (refine wpList_load_g (by rfl) 37 _ rfl w.heap.size 0 rfl _ _ HG.out.ent.range Try.underlying37 rfl (size_ent _ _ _) ?_)
              exact get_good HGE.out _ rfl rfl _ (fun w' hb => ⟨Or.inl ⟨HOk.out, sv, rfl, (HGE.out.own.below hb (Nat.le_refl _)).mono (by omega)⟩, HGE.out.bel.trans (hb.mono HGE.out.bel.size)⟩)
            · rw [decide_eq_false heq]
              have HNo : Hid (¬ OkG bs) := Lib.hid (fun h => heq h.2.2)
              clear heq hmay
              go_wp2_with fail
              exact get_bad HG.out _ rfl rfl _ (fun w' hb => ⟨Or.inr ⟨HNo.out, rfl⟩, hb⟩)
    · have hkI : (0 : Int) < ((k + 1 : Nat) : Int) := by omega
      have HGd : Hid (GS w bs b o cap (5 + 5 * m) (gFr bs) sv m (gE bs) (fun _ => 0) wr.drew) := Lib.hid HG.out.drew
      have c1 : wr.drew.cell? ⟨w.heap.size, 1, none⟩ = some sv := HGd.out.ent.z1
      obtain ⟨p0, h0⟩ : ∃ p, 5 + 5 * m = p := ⟨_, rfl⟩
      obtain ⟨p1, h1⟩ : ∃ p, p0 + 1 = p := ⟨_, rfl⟩
      obtain ⟨p2, h2⟩ : ∃ p, p1 + 1 = p := ⟨_, rfl⟩
      obtain ⟨p3, h3⟩ : ∃ p, p2 + 1 = p := ⟨_, rfl⟩
      obtain ⟨p4, h4⟩ : ∃ p, p3 + 1 = p := ⟨_, rfl⟩
      obtain ⟨p5, h5⟩ : ∃ p, p4 + 1 = p := ⟨_, rfl⟩
      have hl2 : bits .or .i64 (zz bs p2) (wrap64 (zz bs p3 * 256)) = gE bs m 2 := by
        rw [le2 _ _ (HBY.out _) (HBY.out _)]; unfold gE; rw [if_neg (by omega), if_neg (by omega), if_pos rfl, show 5 + 5 * m + 2 = p2 by omega, show 5 + 5 * m + 3 = p3 by omega]
      have HL2 : Hid (bits .or .i64 (zz bs p2) (IntKind.i64.wrap (zz bs p3 * 256)) = gE bs m 2) := Lib.hid (by rw [← hl2, IntWalk.i64_left])
      clear hl2
      rw [h0] at HGd
      have HT0 : Hid (bs.length ≤ p0 → bs.length < gTot bs) := Lib.hid (fun h => HTot.out p0 h (by omega))
      have HT1 : Hid (bs.length ≤ p1 → bs.length < gTot bs) := Lib.hid (fun h => HTot.out p1 h (by omega))
      have HT2 : Hid (bs.length ≤ p2 → bs.length < gTot bs) := Lib.hid (fun h => HTot.out p2 h (by omega))
      have HT3 : Hid (bs.length ≤ p3 → bs.length < gTot bs) := Lib.hid (fun h => HTot.out p3 h (by omega))
      have HT4 : Hid (bs.length ≤ p4 → bs.length < gTot bs) := Lib.hid (fun h => HTot.out p4 h (by omega))
      have H0 := Lib.hid h0
      have H1 := Lib.hid h1
      have H2 := Lib.hid h2
      have H3 := Lib.hid h3
      have H4 := Lib.hid h4
      have H5 := Lib.hid h5
      have X0 : Hid (zz bs p0 = gE bs m 0) := Lib.hid (by subst h0; rfl)
      have X1 : Hid (zz bs p1 = gE bs m 1) := Lib.hid (by subst h1; subst h0; rfl)
      have X4 : Hid (zz bs p4 = gE bs m 3) := Lib.hid (by subst h4; subst h3; subst h2; subst h1; subst h0; rfl)
      have hgN := gN_lt HBY.out
      have hkk : k < 300 := by omega
      have HKM : Hid (k + (m + 1) = gN bs) := Lib.hid (by omega)
      have hm1000 : m ≤ 1000 := by omega
      have hk64 : wrap64 (k : Int) = k := by unfold wrap64; omega
      clear h0 h1 h2 h3 h4 h5 hg HG
      go_wp2_with fail
      have HE : Hid (∀ (sv' : Value) (W : World), GS w bs b o cap p5 (gFr bs) sv' (m + 1) (gE bs) (fun _ => 0) W → GS w bs b o cap (5 + 5 * (m + 1)) (gFr bs) sv' (m + 1) (gE bs) (fun _ => 0) W) := Lib.hid (fun sv' W h => by rw [show 5 + 5 * (m + 1) = p5 by have := H0.out; have := H1.out; have := H2.out; have := H3.out; have := H4.out; have := H5.out; omega]; exact h)
      refine ev_region w wr bs b o cap m p0 p1 p2 p3 p4 p5 (gFr bs) sv (fun _ => 0) _ _ _ _ _ _ _ _ _ _ _ _ _ _ _ _ _ _ _ _ _ _ _ _ _ _ _ _ _ _ _ _ _ _ _ _ _ _ _ _ _ _ _ _ _ _ _ _ _ _ _ _ _ _ _ _ _ _ _ _ _ _ _ _ _ _ _ _ _ _ _ _ _ _ _ _ _ _ _ _ _ _ _ _ _ _ _ _ _ _ _ HBY HBS HGd hm1000 H1 H2 H3 H4 H5 X0 X1 HL2 X4 HT0 HT1 HT2 HT3 HT4 _ (fun _ _ _ => rfl) ?_
      intro x35 x36 x37 x38 x39 x40 x41 x42 x43 x44 x45 x46 x47 x48 x49 x50 x51 x52 w' sv' hG'
      clear HGd c1 X0 X1 X4 HL2 HT0 HT1 HT2 HT3 HT4
      go_wp2_with fail
      exact ⟨⟨k, m + 1, HKM.out, rfl, _, HE.out _ _ hG'.out⟩, by show max (k : Int) 0 < (k : Int) + 1; omega⟩
end Go.Proofs.Ytembppihfcclcaa
