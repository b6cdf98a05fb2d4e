/-
  Link: the reference's Hear.
-/
import Derived.Test.YtfadaakogpbgfaaZ
namespace Go.Proofs.Ytfadaakogpbgfaa
set_option linter.unusedVariables false
open Go.ChangeShapes Go.WideShapes Go.ChangeAt Go.RowKit Go.Sort

theorem Frame.cell {P : Nat → Prop} {w w' : World} (f : Frame P w w') {p : Addr} (h : p.block < w.heap.size) (hp : ¬ P p.block) : w'.cell? p = w.cell? p := World.cell?_of_block (w := w) (f.block p.block h hp)
theorem Frame.frozen {P : Nat → Prop} {w w' : World} (f : Frame P w w') {p : Addr} (h : p.block < w.heap.size) (hp : ¬ P p.block) : w'.frozen? p = w.frozen? p := World.frozen?_of_block (w := w) (f.block p.block h hp)
theorem filter_next (f : Int → Bool) (zs : List Int) (n : Nat) (hn : n < zs.length) :
    (zs.take (n + 1)).filter f = if f (zs.getD n 0) then (zs.take n).filter f ++ [zs.getD n 0] else (zs.take n).filter f := by
  rw [List.take_add_one, List.filter_append, List.getElem?_eq_getElem hn, List.getD_eq_getElem?_getD, List.getElem?_eq_getElem hn]
  simp only [Option.toList_some, Option.getD_some, List.filter_cons, List.filter_nil]
  split <;> simp
theorem RLinkAt.setTwo {w : World} {b : Nat} {sr : Int} {v : Value} {t : Int} (a : RLinkAt w b sr v t) (u : Value) (t' : Int) : RLinkAt ((w.setCell ⟨b, 37, none⟩ u).setCell ⟨b, 36, none⟩ (.int .i64 t')) b sr u t' := by
  obtain ⟨c0, c1, c2, f0, f1, f2⟩ := a
  refine rlinkAt_of ?_ ?_ ?_ ?_ ?_ ?_
  all_goals go_light
  all_goals go_simp
set_option maxHeartbeats 1000000 in
theorem rhear_any {w : World} {P : Nat → Prop} {b : Nat} {sr t : Int} {is : Bool} {l : Int} {c : Nat → Bool} {zs : List Int} (o : RLk w P b sr t is l c zs) (hz : zs.length ≤ 64) (hzb : ∀ x ∈ zs, 0 ≤ x ∧ x ≤ 65535)
    (m : Nat) (hS : SameHeard is l m c) (now s a k : Int) (s0 : 0 ≤ s) (s1 : s ≤ 65535) (a0 : 0 ≤ a) (a1 : a ≤ 65535) :
    Calls Try.prog 13 #[.pointer (some ⟨b, 0, none⟩), .int .i64 now, .int .u16 s, .int .u16 a, .int .u32 k] w fun e w' => e = .returned (.bool (noteB is l s m)) ∧ Frame P w w' ∧ ∃ P', (∀ k, P' k → P k ∨ w.heap.size ≤ k) ∧ RLk w' P' b sr (max t now) true (noteL is l s) (refC is l s c) (zs.filter fun x => !toldF x a k) := by
  obtain ⟨v, hL, hO⟩ := o.ex
  have hb := o.lt _ o.own
  have hR := o.ref
  have hv : ∃ ad c, v = .slice ad zs.length c ∧ (0 < zs.length → ∃ g off, ad = some ⟨g, off, none⟩ ∧ g < w.heap.size ∧ ∀ i, i < zs.length → w.cell? ⟨g, off + i, none⟩ = some (.int .u16 (zs.getD i 0))) := by
    rcases hO with ⟨rfl, hc⟩ | ⟨g, off, cap, rfl, hg1, hg2, hr⟩
    · rw [hc]; exact ⟨none, 0, rfl, fun h => absurd h (by decide)⟩
    · exact ⟨_, _, rfl, fun _ => ⟨g, off, rfl, hg2, hr.cell⟩⟩
  obtain ⟨ad, cp, rfl, hC⟩ := hv
  have hbd : ∀ n, n < zs.length → 0 ≤ zs.getD n 0 ∧ zs.getD n 0 ≤ 65535 := fun n hn => by
    rw [List.getD_eq_getElem?_getD, List.getElem?_eq_getElem hn]; exact hzb _ (List.getElem_mem _)
  have HBD := Lib.hid hbd
  have HFN := Lib.hid (filter_next (fun x => !toldF x a k) zs)
  have HLen : Hid ((zs.take zs.length).filter (fun x => !toldF x a k) = zs.filter fun x => !toldF x a k) := Lib.hid (by rw [List.take_length])
  have HC := Lib.hid hC
  have HL := Lib.hid hL
  have HR := Lib.hid hR
  have HSm := Lib.hid hS
  have OO := Lib.hid o
  clear hL hO hR hS o hC hzb hbd
  generalize hLn : zs.length = L at *
  have HLn := Lib.hid hLn
  clear hLn
  go_enter Try.func13, Try.ntmps13
  go_wp2_with fail
  go_loopw [11, 12] (fun lf i wr => ∃ n : Nat, n ≤ L ∧ i = .int .i64 n ∧ OpenAt wr (fun k => w.heap.size ≤ k) lf ((zs.take n).filter fun x => !toldF x a k) ∧ Frame (fun _ => False) w wr) (fun _ i _ => L - (intOf i).toNat)
  case atStart => exact ⟨0, by omega, rfl, Or.inl ⟨rfl, rfl⟩, Frame.refl _ _⟩
  case round =>
    obtain ⟨n, hn, rfl, hO, hF⟩ := hrel
    have hLr := HL.out.block (hF.block b hb (fun e => e))
    obtain ⟨c0, c1, c2, f0, f1, f2⟩ := hLr
    have HO := Lib.hid hO
    have HF := Lib.hid hF
    by_cases hlt : n < L
    · obtain ⟨g, off, rfl, hg, hcc⟩ := HC.out (by omega)
      have hc := hcc n hlt
      have hc' : wr.cell? ⟨g, off + n, none⟩ = some (.int .u16 (zs.getD n 0)) := (hF.cell hg (fun e => e)).trans hc
      obtain ⟨x0, x1⟩ := HBD.out n hlt
      have hfn := HFN.out n hlt
      clear hcc hc hO hF
      generalize zs.getD n 0 = x at *
      have hfl : ((zs.take n).filter fun x => !toldF x a k).length ≤ 64 := Nat.le_trans (List.length_filter_le _ _) (by rw [List.length_take]; omega)
      have HFN' := Lib.hid hfn
      have HFL := Lib.hid hfl
      clear hfn hfl
      go_wp2_with fail
      refine (rtold_any x a k a0 a1 x0 x1 _).mono ?_
      rintro e w' ⟨rfl, rfl⟩
      cases htd : toldF x a k with
      | true =>
        have hfin : OpenAt wr (fun k => w.heap.size ≤ k) u11 ((zs.take (n + 1)).filter fun x => !toldF x a k) := by
          rw [HFN'.out, htd]; exact HO.out
        have HFin := Lib.hid hfin
        clear hfin htd
        go_wp2_with fail
        all_goals first | exact ⟨⟨n + 1, by omega, by go_num, HFin.out, HF.out⟩, by simp [intOf]; omega⟩ | exact ⟨n + 1, by omega, by go_num, HFin.out, HF.out⟩ | (simp [intOf]; omega) | go_roundw
      | false =>
        have HTd := Lib.hid htd
        clear htd
        go_wp2_with (at_builtin; refine wpList_append_open _ rfl _ _ rfl (fun k => w.heap.size ≤ k) _ ((zs.take n).filter fun x => !toldF x a k) (Nat.le_trans HFL.out (by decide)) ?hO rfl _ _ x rfl ?hc ?h)
        case hO => exact HO.out.frame (P := fun _ => False) ((Frame.refl _ _).alloc _) (fun _ _ h => h)
        case hc => go_simp
        case h =>
          intro v4 w4 hO4 hF4
          have hfin : OpenAt w4 (fun k => w.heap.size ≤ k) v4 ((zs.take (n + 1)).filter fun x => !toldF x a k) := by
            rw [HFN'.out, HTd.out]
            have hsz := HF.out.size
            exact hO4.mono fun k hk => by rcases hk with hk | hk; exact hk; first | omega | (simp at hk; omega)
          have hF5 : Frame (fun _ => False) w w4 := by
            have h1 := (HF.out).alloc (Obj.cells #[Value.int IntKind.u16 x] 28)
            exact ⟨hF4.os.trans h1.os, hF4.tape.trans h1.tape, hF4.output.trans h1.output, Nat.le_trans h1.size hF4.size, fun k hk _ => (hF4.block k (Nat.lt_of_lt_of_le hk h1.size) (by omega)).trans (h1.block k hk (fun e => e))⟩
          have HFin := Lib.hid hfin
          have HF5 := Lib.hid hF5
          clear hO4 hF4 hfin hF5
          go_wp2_with fail
          all_goals first | exact ⟨⟨n + 1, by omega, by go_num, HFin.out, HF5.out⟩, by simp [intOf]; omega⟩ | exact ⟨n + 1, by omega, by go_num, HFin.out, HF5.out⟩ | (simp [intOf]; omega) | go_roundw
    · obtain rfl : n = L := by omega
      clear hO hF
      rw [HLen.out] at HO
      obtain ⟨ad', n', c', rfl⟩ : ∃ ad' n' c', u11 = .slice ad' n' c' := by
        rcases HO.out with ⟨rfl, -⟩ | ⟨g, off, cap, rfl, -, -, -⟩
        · exact ⟨_, _, _, rfl⟩
        · exact ⟨_, _, _, rfl⟩
      go_wp2_with fail
      have hRr := ((HR.out.block (HF.out.block b hb (fun e => e))).setOut 37 (Or.inr (by decide)) (Value.slice ad' n' c')).setOut 36 (Or.inr (by decide)) (.int .i64 (max t now))
      have hbr : b < ((wr.setCell ⟨b, 37, none⟩ (Value.slice ad' n' c')).setCell ⟨b, 36, none⟩ (.int .i64 (max t now))).heap.size := by
        have := HF.out.size; simp; omega
      refine (rnote_any b is l s m c _ hRr hbr HSm.out s0 s1).mono ?_
      rintro e w5 ⟨rfl, hR5, hH5⟩
      have hK5 := hH5.keep
      have hF4 : Frame P w ((wr.setCell ⟨b, 37, none⟩ (Value.slice ad' n' c')).setCell ⟨b, 36, none⟩ (.int .i64 (max t now))) := ((HF.out.mono (fun _ h => h.elim)).setCell (x := ⟨b, 37, none⟩) OO.out.own _).setCell (x := ⟨b, 36, none⟩) OO.out.own _
      have hF5 : Frame P w w5 := hF4.trans ⟨hK5.os, hK5.tape, hK5.output, hK5.size, fun k hk hp => hK5.block k hk (fun e => hp (e ▸ OO.out.own))⟩
      have hFb : Frame (fun k => k = b) wr w5 := (((Frame.refl (fun k => k = b) wr).setCell (x := ⟨b, 37, none⟩) rfl (Value.slice ad' n' c')).setCell (x := ⟨b, 36, none⟩) rfl (.int .i64 (max t now))).trans ⟨hK5.os, hK5.tape, hK5.output, hK5.size, fun k hk hp => hK5.block k hk hp⟩
      have hO5 := (HO.out.frame hFb (fun k hk e => by omega)).lt
      have hL5 : RLinkAt w5 b sr (Value.slice ad' n' c') (max t now) := by
        obtain ⟨c0, c1, c2, f0, f1, f2⟩ := (HL.out.block (HF.out.block b hb (fun e => e))).setTwo (Value.slice ad' n' c') (max t now)
        exact ⟨(hH5.rest 0 (by decide)).1.trans c0, (hH5.rest 36 (by decide)).1.trans c1, (hH5.rest 37 (by decide)).1.trans c2, (hH5.rest 0 (by decide)).2.trans f0, (hH5.rest 36 (by decide)).2.trans f1, (hH5.rest 37 (by decide)).2.trans f2⟩
      have HL5 := Lib.hid hL5
      have HO5 := Lib.hid hO5
      have HF5 := Lib.hid hF5
      have HR5 := Lib.hid hR5
      clear hO5 hF5 hR5 hFb hF4 hRr hbr hL5 hH5 hK5
      go_wp2_with fail
      go_ret
      refine ⟨rfl, HF5.out, fun k => (P k ∨ w.heap.size ≤ k) ∧ k < w5.heap.size, fun k hk => hk.1, ⟨⟨_, HL5.out, HO5.out.mono fun k hk => ⟨⟨Or.inr hk.1, hk.2⟩, by omega⟩⟩, HR5.out, ⟨Or.inl OO.out.own, Nat.lt_of_lt_of_le hb HF5.out.size⟩, fun k hk => hk.2⟩⟩
end Go.Proofs.Ytfadaakogpbgfaa
