/-
  Wire: Get, walked.
-/
import Derived.Test.YtembppihfcclcaaG17x
import Derived.BigQuiet
namespace Go.Proofs.Ytembppihfcclcaa
set_option linter.unusedVariables false
open Go.ChangeShapes Go.WideShapes Go.ChangeAt Go.RowKit

set_option linter.unusedSimpArgs false
theorem GX.drewN {w wr : World} {F : Nat → Int} {iv lv dv : Value} {x : Int} (h : GX w F iv lv dv x wr) (n : Nat) : GX w F iv lv dv x (wr.drewN n) := h.grow (B := wr.heap.size) ⟨rfl, rfl, rfl, Nat.le_refl _, fun _ _ => rfl⟩ (by have := h.lt; omega)
set_option maxRecDepth 100000 in
set_option maxHeartbeats 8000000 in
theorem getM_short (v : Value) (bs : List Int) (w : World) (hv : BytesV w v bs) (hby : ByteL bs) (h4 : bs.length < 4) :
    Calls Try.prog 20 #[v] w fun e w' => GetQ bs e w' ∧ Below w.heap.size w w' := by
  have hmf : ∀ (fn : Fn) (first cap : Array Value) (w : World), (Instr.makeFunc fn first cap).run Try.prog w = .ok (.func fn first cap) w := fun _ _ _ _ => rfl
  have HV := Lib.hid hv
  obtain ⟨a, cap, rfl, hnc, hcm, hev⟩ := hv
  have HG := Lib.hid (gx_start w)
  have HBY := Lib.hid hby
  have HCM := Lib.hid hcm
  unfold maxLen at hcm
  have HNo : Hid (¬ SumOk bs) := Lib.hid (fun h => by have := h.1; omega)
  have hd : decide ((bs.length : Int) < 4) = true := decide_eq_true (by omega)
  have hbd := build_msg0
  clear hev
  go_enter_defers Try.func20, Try.ntmps20
  go_wp2_with fail
  generalize ((w.alloc (Obj.cells #[.int .i64 0, .int .i64 0, .int .u16 0, .int .u16 0, .int .u32 0, .int .i64 0, .int .i64 0, .int .i64 0, .int .i64 0, .int .i64 0, .int .i64 0, .int .u32 0, .int .u64 0, .slice none 0 0, .slice none 0 0, .slice none 0 0] 30)).alloc (Obj.cells #[.int .i64 0] 3)) = w1 at *
  go_quiet (fail)
  have HG1 := Lib.hid (HG.out.drewN nq)
  clear HG
  generalize w1.drewN nq = w2 at *
  have HG2 := Lib.hid (HG1.out.put zF (.slice none 0 0) (.slice none 0 0) (.slice none 0 0))
  have H2 : Hid (w2.there w.heap.size 0 zL.toArray.size) := Lib.hid (by
    have e : zL.toArray.size = 16 := by unfold zL; rw [List.size_toArray, msgL_len]
    rw [e]; exact HG1.out.th)
  obtain ⟨w3, hw3⟩ : ∃ w3, w2.setCells w.heap.size 0 zL = w3 := ⟨_, rfl⟩
  have HW3 := Lib.hid hw3
  have HG3 : Hid (GX w zF (.slice none 0 0) (.slice none 0 0) (.slice none 0 0) 0 w3) := by rw [← hw3]; exact HG2
  clear HG2 HG1 hw3
  have c3 := HG3.out.c3
  have f3 := HG3.out.f3
  go_wp2_with (refine wpList_store_mid rfl 30 _ _ rfl w.heap.size 0 zL.toArray rfl rfl H2.out (by have e : zL.toArray.size = zL.length := List.size_toArray; rw [e]; exact size_msg _ _ _ _) zL_one ?_; rw [show zL.toArray.toList = zL from rfl, HW3.out])
  exact getW_good (HG3.out.code 9) _ rfl rfl _ (fun w' hb => ⟨Or.inl ⟨HNo.out, rfl⟩, ((HG3.out.code 9).bel).trans (hb.mono (HG3.out.code 9).bel.size)⟩)
end Go.Proofs.Ytembppihfcclcaa
