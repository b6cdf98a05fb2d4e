/-
  Wire: the bytes of a message, in plain words; where Put stands.
-/
import Derived.Test.YtembppihfcclcaaME
import Derived.Laws.IdiomCopy
namespace Go.Proofs.Ytembppihfcclcaa
set_option linter.unusedVariables false
open Go.ChangeShapes Go.WideShapes Go.ChangeAt Go.RowKit

set_option linter.unusedSimpArgs false
def pt (M : Msg) (j : Nat) (n : Int) (c : Nat) : List Int := if hasB (M.F 0) j then leB n c else []
def inpsW (I : Nat → Int) : Nat → List Int
  | 0 => []
  | n + 1 => inpsW I n ++ inp3 I n
def entW (x : Ent) : List Int := putB x.fr x.n x.E x.I
def logW (D : Nat → Ent) : Nat → List Int
  | 0 => []
  | n + 1 => logW D n ++ leB (entW (D n)).length 2 ++ entW (D n)
def pS0 (M : Msg) : List Int := leB 0 4
def pS1 (M : Msg) : List Int := pS0 M ++ leB (M.F 0) 1
def pS2 (M : Msg) : List Int := pS1 M ++ leB (M.F 1) 1
def pS3 (M : Msg) : List Int := pS2 M ++ leB (M.F 2) 2
def pS4 (M : Msg) : List Int := pS3 M ++ leB (M.F 3) 2
def pS5 (M : Msg) : List Int := pS4 M ++ leB (M.F 4) 4
def pS6 (M : Msg) : List Int := pS5 M ++ pt M 0 (M.F 5) 1
def pS7 (M : Msg) : List Int := pS6 M ++ pt M 1 (M.F 6) 2
def pS8 (M : Msg) : List Int := pS7 M ++ pt M 2 (M.F 7) 4
def pS9 (M : Msg) : List Int := pS8 M ++ pt M 3 (M.F 8) 1
def pS10 (M : Msg) : List Int := pS9 M ++ pt M 4 (M.F 9) 2
def pS11 (M : Msg) : List Int := pS10 M ++ pt M 5 (M.F 10) 2
def pS12 (M : Msg) : List Int := pS11 M ++ pt M 6 (M.F 11) 4
def pS13 (M : Msg) : List Int := pS12 M ++ pt M 7 (M.F 12) 8
def pS14 (M : Msg) : List Int := pS13 M ++ pt M 8 M.ni 1
def pS15 (M : Msg) (n : Nat) : List Int := pS14 M ++ inpsW M.I n
def pS16 (M : Msg) : List Int := pS15 M M.ni ++ pt M 9 M.nl 1
def pS17 (M : Msg) (n : Nat) : List Int := pS16 M ++ logW M.D n
def pS18 (M : Msg) : List Int := pS17 M M.nl ++ pt M 10 M.d.length 1
def pS19 (M : Msg) : List Int := pS18 M ++ M.d
/-- A message's bytes behind their sum; with it. -/
def bodyM (M : Msg) : List Int := (pS19 M).drop 4
def putM (M : Msg) : List Int := leB (crc (bodyM M) (bodyM M).length) 4 ++ bodyM M
theorem putM_eq (M : Msg) : putM M = leB ((crc (bodyM M) (bodyM M).length : Nat) : Int) 4 ++ bodyM M := by rw [putM]
theorem pS19_eq (M : Msg) : pS19 M = leB 0 4 ++ bodyM M := by
  have h : (pS19 M).take 4 = leB 0 4 := by
    unfold pS19 pS18 pS17 pS16 pS15 pS14 pS13 pS12 pS11 pS10 pS9 pS8 pS7 pS6 pS5 pS4 pS3 pS2 pS1 pS0
    simp only [List.append_assoc]
    exact List.take_left' (by rw [leB_len])
  unfold bodyM
  rw [← h, List.take_append_drop]
theorem drop_pS19 (M : Msg) : (pS19 M).drop 4 = bodyM M := by rw [bodyM]
theorem pt_len (M : Msg) (j : Nat) (n : Int) (c : Nat) : (pt M j n c).length ≤ c := by
  unfold pt
  split
  · rw [leB_len]; exact Nat.le_refl _
  · exact Nat.zero_le _
theorem inpsW_len (I : Nat → Int) : ∀ n, (inpsW I n).length = 3 * n
  | 0 => rfl
  | n + 1 => by unfold inpsW; rw [List.length_append, inpsW_len I n]; rfl
theorem pS5_len (M : Msg) : (pS5 M).length = 14 := by
  unfold pS5 pS4 pS3 pS2 pS1 pS0
  simp only [List.length_append, leB_len]
theorem pS_lens (M : Msg) : (pS6 M).length ≤ 15 ∧ (pS7 M).length ≤ 17 ∧ (pS8 M).length ≤ 21 ∧ (pS9 M).length ≤ 22 ∧ (pS10 M).length ≤ 24 ∧ (pS11 M).length ≤ 26 ∧ (pS12 M).length ≤ 30 ∧ (pS13 M).length ≤ 38 ∧ (pS14 M).length ≤ 39 := by
  have h5 := pS5_len M
  have h6 : (pS6 M).length ≤ 15 := by have := pt_len M 0 (M.F 5) 1; unfold pS6; rw [List.length_append]; omega
  have h7 : (pS7 M).length ≤ 17 := by have := pt_len M 1 (M.F 6) 2; unfold pS7; rw [List.length_append]; omega
  have h8 : (pS8 M).length ≤ 21 := by have := pt_len M 2 (M.F 7) 4; unfold pS8; rw [List.length_append]; omega
  have h9 : (pS9 M).length ≤ 22 := by have := pt_len M 3 (M.F 8) 1; unfold pS9; rw [List.length_append]; omega
  have h10 : (pS10 M).length ≤ 24 := by have := pt_len M 4 (M.F 9) 2; unfold pS10; rw [List.length_append]; omega
  have h11 : (pS11 M).length ≤ 26 := by have := pt_len M 5 (M.F 10) 2; unfold pS11; rw [List.length_append]; omega
  have h12 : (pS12 M).length ≤ 30 := by have := pt_len M 6 (M.F 11) 4; unfold pS12; rw [List.length_append]; omega
  have h13 : (pS13 M).length ≤ 38 := by have := pt_len M 7 (M.F 12) 8; unfold pS13; rw [List.length_append]; omega
  have h14 : (pS14 M).length ≤ 39 := by have := pt_len M 8 M.ni 1; unfold pS14; rw [List.length_append]; omega
  exact ⟨h6, h7, h8, h9, h10, h11, h12, h13, h14⟩
theorem pS15_len (M : Msg) (n : Nat) (h : n ≤ 16) : (pS15 M n).length ≤ 87 := by
  have := (pS_lens M).2.2.2.2.2.2.2.2
  unfold pS15
  rw [List.length_append, inpsW_len]
  omega
theorem pS16_len (M : Msg) (h : M.ni ≤ 16) : (pS16 M).length ≤ 88 := by
  have := pS15_len M M.ni h
  have := pt_len M 9 M.nl 1
  unfold pS16
  rw [List.length_append]
  omega
theorem logOk_get {fr : Int} {D : Nat → Ent} : ∀ n, logOk fr D n = true → ∀ i, i < n → mayD (D i) = true ∧ (D i).fr = fr + i
  | 0, _, i, hi => by omega
  | n + 1, h, i, hi => by
    unfold logOk at h
    rw [Bool.and_eq_true, Bool.and_eq_true] at h
    by_cases e : i = n
    · subst e
      exact ⟨h.2.1, by simpa using h.2.2⟩
    · exact logOk_get n h.1 i (by omega)
theorem entW_len {x : Ent} (h : mayD x = true) : 6 ≤ (entW x).length ∧ (entW x).length ≤ 200 := put_len h
theorem logW_len {fr : Int} {D : Nat → Ent} {m : Nat} (h : logOk fr D m = true) : ∀ n, n ≤ m → (logW D n).length ≤ 202 * n
  | 0, _ => Nat.le_refl _
  | n + 1, hn => by
    have := logW_len h n (by omega)
    have := (entW_len (logOk_get m h n (by omega)).1).2
    unfold logW
    rw [List.length_append, List.length_append, leB_len]
    omega
/-- Where Put stands: its writer at block R holds these bytes; the world ahead of it was w1. -/
structure PS (w1 : World) (bs : List Int) (w : World) : Prop where
  ex : ∃ v, WrAt w w1.heap.size v bs
  bel : Below w1.heap.size w1 w
theorem num_ps {w1 w : World} {bs : List Int} (n : Int) (c : Nat) (h : PS w1 bs w) (hn : 0 ≤ n ∧ n < 18446744073709551616) (hc : c ≤ 8) (hl : bs.length ≤ 100000) :
    Calls Try.prog 33 #[.pointer (some ⟨w1.heap.size, 0, none⟩), .int .u64 n, .int .i64 (c : Int)] w fun e w' => e = .returned (.tuple #[]) ∧ Hid (PS w1 (bs ++ leB n c) w') := by
  obtain ⟨⟨v, hv⟩, hb⟩ := h
  refine (num_any _ v bs n c w hv hn hc hl).mono ?_
  rintro e w' ⟨rfl, v', h1, h2⟩
  exact ⟨rfl, Lib.hid ⟨⟨v', h1⟩, hb.trans (h2.below hv)⟩⟩
theorem part_ps {w1 w : World} {bs : List Int} (has : Bool) (h p n : Int) (c : Nat) (hP : PS w1 bs w) (hn : has = true → 0 ≤ n ∧ n < 18446744073709551616) (hc : c ≤ 8) (hl : bs.length ≤ 100000) (hh : (bits .and .i64 h p == 0) = !has) :
    Calls Try.prog 34 #[.pointer (some ⟨w1.heap.size, 0, none⟩), .int .i64 h, .int .i64 p, .int .u64 n, .int .i64 (c : Int)] w fun e w' => e = .returned (.tuple #[]) ∧ Hid (PS w1 (bs ++ if has then leB n c else []) w') := by
  obtain ⟨⟨v, hv⟩, hb⟩ := hP
  refine (part_any _ v bs has h p n c w hv hn hc hl hh).mono ?_
  rintro e w' ⟨rfl, v', h1, h2⟩
  exact ⟨rfl, Lib.hid ⟨⟨v', h1⟩, hb.trans (h2.below hv)⟩⟩
theorem PS.below {w1 w w' : World} {bs : List Int} {B : Nat} (h : PS w1 bs w) (hb : Below B w w') (hs : w.heap.size ≤ B) : PS w1 bs w' := by
  obtain ⟨⟨v, hv⟩, h2⟩ := h
  exact ⟨⟨v, hv.below hb hs⟩, h2.trans (hb.mono (by have := hv.lt; omega))⟩
theorem ps_new (w1 : World) : PS w1 [] (w1.alloc (Obj.cells #[.slice none 0 0] 68)) := by
  refine ⟨⟨.slice none 0 0, ?_, by rw [World.frozen?_alloc_new], World.ownsRow_nil _ _ _ _⟩, (Below.refl _ w1).alloc (Nat.le_refl _) _⟩
  rw [World.cell?_alloc_new]; rfl
/-- The message's numbers, as far as their kinds go. -/
structure MsgB (M : Msg) : Prop where
  f2 : 0 ≤ M.F 2 ∧ M.F 2 < 65536
  f3 : 0 ≤ M.F 3 ∧ M.F 3 < 65536
  f4 : 0 ≤ M.F 4 ∧ M.F 4 < 4294967296
  f11 : 0 ≤ M.F 11 ∧ M.F 11 < 4294967296
  f12 : 0 ≤ M.F 12 ∧ M.F 12 < 18446744073709551616
  b : ∀ i, i < M.ni → 0 ≤ M.I (i * 3 + 2) ∧ M.I (i * 3 + 2) ≤ 255
  xy : ∀ i, i < M.ni → (-128 ≤ M.I (i * 3) ∧ M.I (i * 3) ≤ 127) ∧ (-128 ≤ M.I (i * 3 + 1) ∧ M.I (i * 3 + 1) ≤ 127)
  e : ∀ i, i < M.nl → EntB (M.D i).fr (M.D i).n (M.D i).E (M.D i).I
  d : ByteL M.d
/-- What may be, part by part. -/
structure MayP (M : Msg) : Prop where
  p : 0 ≤ partsN (M.F 0)
  f1 : 0 ≤ M.F 1 ∧ M.F 1 < 12
  b0 : inB (hasB (M.F 0) 0) (M.F 5) 0 7 = true
  b1 : inB (hasB (M.F 0) 1) (M.F 6) 1 60000 = true
  b2 : inB (hasB (M.F 0) 2) (M.F 7) 0 1048576 = true
  b3 : inB (hasB (M.F 0) 3) (M.F 8) 0 9 = true
  b4 : inB (hasB (M.F 0) 4) (M.F 9) 0 65535 = true
  b5 : inB (hasB (M.F 0) 5) (M.F 10) (M.F 9 + 1) 65535 = true
  b6 : hasB (M.F 0) 6 = true ∨ M.F 11 = 0
  b7 : hasB (M.F 0) 7 = true ∨ M.F 12 = 0
  b8 : inB (hasB (M.F 0) 8) M.ni 1 16 = true
  b9 : inB (hasB (M.F 0) 9) M.nl 1 16 = true
  b10 : inB (hasB (M.F 0) 10) M.d.length 1 64 = true
  l : logOk (M.F 7) M.D M.nl = true
  i : inpAll M.I M.ni = true
theorem mayM_iff (M : Msg) : mayM M = true ↔ MayP M := by
  unfold mayM
  simp only [Bool.and_eq_true, Bool.or_eq_true, decide_eq_true_eq, beq_iff_eq]
  constructor
  · rintro ⟨h1, h2, h3, h4, h5, h6, h7, h8, h9, h10, h11, h12, h13, h14, h15, h16⟩
    exact ⟨h1, ⟨h2, h3⟩, h4, h5, h6, h7, h8, h9, h10, h11, h12, h13, h14, h15, h16⟩
  · rintro ⟨h1, ⟨h2, h3⟩, h4, h5, h6, h7, h8, h9, h10, h11, h12, h13, h14, h15, h16⟩
    exact ⟨h1, h2, h3, h4, h5, h6, h7, h8, h9, h10, h11, h12, h13, h14, h15, h16⟩
theorem parts_kind (k : Int) (h : 0 ≤ partsN k) : 1 ≤ k ∧ k ≤ 14 := by
  apply Classical.byContradiction
  intro hn
  have := parts_none k (by omega)
  omega
theorem inB_z {n lo hi : Int} (h : inB false n lo hi = true) : n = 0 := by unfold inB at h; simpa using h
/-- The numbers of one that may be. -/
theorem MayP.bd {M : Msg} (h : MayP M) : (1 ≤ M.F 0 ∧ M.F 0 ≤ 14) ∧ (0 ≤ M.F 5 ∧ M.F 5 ≤ 7) ∧ (0 ≤ M.F 6 ∧ M.F 6 ≤ 60000) ∧ (0 ≤ M.F 7 ∧ M.F 7 ≤ 1048576) ∧ (0 ≤ M.F 8 ∧ M.F 8 ≤ 9) ∧ (0 ≤ M.F 9 ∧ M.F 9 ≤ 65535) ∧ (0 ≤ M.F 10 ∧ M.F 10 ≤ 65535) ∧ M.ni ≤ 16 ∧ M.nl ≤ 16 ∧ M.d.length ≤ 64 := by
  have h9 := inB_bd h.b4 (by omega) (by omega)
  have a8 := inB_bd h.b8 (by omega) (by omega)
  have a9 := inB_bd h.b9 (by omega) (by omega)
  have a10 := inB_bd h.b10 (by omega) (by omega)
  exact ⟨parts_kind _ h.p, inB_bd h.b0 (by omega) (by omega), inB_bd h.b1 (by omega) (by omega), inB_bd h.b2 (by omega) (by omega), inB_bd h.b3 (by omega) (by omega), h9, inB_bd h.b5 (by omega) (by omega), by omega, by omega, by omega⟩
theorem pS18_ge (M : Msg) : 14 ≤ (pS18 M).length := by
  have := pS5_len M
  unfold pS18 pS17 pS16 pS15 pS14 pS13 pS12 pS11 pS10 pS9 pS8 pS7 pS6
  simp only [List.length_append]
  omega
theorem leB_by (n : Int) : ∀ c, ∀ x ∈ leB n c, 0 ≤ x ∧ x < 256
  | 0, x, h => by cases h
  | c + 1, x, h => by
    unfold leB at h
    rcases List.mem_append.1 h with h | h
    · exact leB_by n c x h
    · simp at h; omega
theorem pt_by (M : Msg) (j : Nat) (n : Int) (c : Nat) : ∀ x ∈ pt M j n c, 0 ≤ x ∧ x < 256 := by
  intro x h
  unfold pt at h
  split at h
  · exact leB_by n c x h
  · cases h
theorem inpsW_by {I : Nat → Int} : ∀ n, (∀ i, i < n → 0 ≤ I (i * 3 + 2) ∧ I (i * 3 + 2) ≤ 255) → ∀ x ∈ inpsW I n, 0 ≤ x ∧ x < 256
  | 0, _, x, h => by cases h
  | n + 1, hb, x, h => by
    unfold inpsW at h
    rcases List.mem_append.1 h with h | h
    · exact inpsW_by n (fun i hi => hb i (by omega)) x h
    · have := hb n (by omega)
      unfold inp3 at h
      simp at h
      omega
theorem logW_by {D : Nat → Ent} : ∀ n, (∀ i, i < n → EntB (D i).fr (D i).n (D i).E (D i).I) → ∀ x ∈ logW D n, 0 ≤ x ∧ x < 256
  | 0, _, x, h => by cases h
  | n + 1, hb, x, h => by
    unfold logW at h
    rcases List.mem_append.1 h with h | h
    · rcases List.mem_append.1 h with h | h
      · exact logW_by n (fun i hi => hb i (by omega)) x h
      · exact leB_by _ _ x h
    · exact byteL_iff.1 (put_by (hb n (by omega))) x h
theorem pS19_by {M : Msg} (hm : MsgB M) : ∀ x ∈ pS19 M, 0 ≤ x ∧ x < 256 := by
  intro x h
  unfold pS19 pS18 pS17 pS16 pS15 pS14 pS13 pS12 pS11 pS10 pS9 pS8 pS7 pS6 pS5 pS4 pS3 pS2 pS1 pS0 at h
  simp only [List.mem_append] at h
  rcases h with ((((((((((((((((((h | h) | h) | h) | h) | h) | h) | h) | h) | h) | h) | h) | h) | h) | h) | h) | h) | h) | h) | h
  all_goals first | exact leB_by _ _ x h | exact pt_by _ _ _ _ x h | exact inpsW_by _ hm.b x h | exact logW_by _ hm.e x h | exact byteL_iff.1 hm.d x h
theorem bodyM_by {M : Msg} (hm : MsgB M) : ByteL (bodyM M) := by
  rw [byteL_iff]
  intro x h
  exact pS19_by hm x (List.mem_of_mem_drop h)
theorem pS19_len (M : Msg) : (pS19 M).length = 4 + (bodyM M).length := by rw [pS19_eq, List.length_append, leB_len]
theorem putM_len (M : Msg) : (putM M).length = 4 + (bodyM M).length := by unfold putM; rw [List.length_append, leB_len]
theorem leB4 (n : Nat) : leB (n : Int) 4 = [(n : Int) % 256, (n : Int) / 256 % 256, (n : Int) / 65536 % 256, (n : Int) / 16777216 % 256] := by
  show [shN (n : Int) 0 % 256, shN (n : Int) 1 % 256, shN (n : Int) 2 % 256, shN (n : Int) 3 % 256] = _
  have h1 : shN (n : Int) 1 = (n : Int) / 256 := rfl
  have h2 : shN (n : Int) 2 = (n : Int) / 65536 := by show (n : Int) / 256 / 256 = _; omega
  have h3 : shN (n : Int) 3 = (n : Int) / 16777216 := by show (n : Int) / 256 / 256 / 256 = _; omega
  rw [h1, h2, h3]; rfl
theorem drop4_of (bs : List Int) (h : 4 ≤ bs.length) (a b c d : Int) : (((bs.set 0 a).set 1 b).set 2 c).set 3 d = [a, b, c, d] ++ bs.drop 4 := by
  rcases bs with _ | ⟨x, _ | ⟨y, _ | ⟨z, _ | ⟨u, r⟩⟩⟩⟩
  all_goals first | (simp at h; done) | rfl
theorem OwnB.lits {w : World} {B g n cap : Nat} {bs : List Int} (h : OwnB w B (.slice (some ⟨g, 0, none⟩) n cap) bs) (hn : 0 < bs.length) : n = bs.length ∧ B ≤ g ∧ g < w.heap.size ∧ bs.length ≤ cap ∧ cap ≤ maxLen := by
  obtain ⟨g', cap', e, h1, h2, h3, h4⟩ := h.form hn
  generalize bs.length = l at *
  injection e with e1 e2 e3
  injection e1 with e1
  injection e1 with e1 _ _
  subst e1 e2 e3
  exact ⟨rfl, h1, h2, h3, h4⟩
/-- The four bytes of the sum go over the first four. -/
theorem step_copy4 {ops : Array Oper} {rest : List Oper} {o : Oper} {a : Act} {Q : Exit → Act → World → Prop} (hgd : o.guard = none) (d s : Operand)
    (ho : o.op = .call { callee := .builtin .copy, args := #[d, s], argTypes := #[28, 28] })
    (B g L cp T : Nat) (w : World) (bs : List Int) (hown : OwnB w B (.slice (some ⟨g, 0, none⟩) L cp) bs) (hn : 4 ≤ bs.length) (hd : a.eval d = .slice (some ⟨g, 0, none⟩) L cp) (hs : a.eval s = .slice (some ⟨T, 0, none⟩) 4 4) (a0 a1 a2 a3 : Int) (hT : w.heap.size = T)
    (h : ∀ w', OwnB w' B (.slice (some ⟨g, 0, none⟩) L cp) ([a0, a1, a2, a3] ++ bs.drop 4) → Only g (w.alloc (Obj.cells #[.int .u8 a0, .int .u8 a1, .int .u8 a2, .int .u8 a3] 5)) w' → wpList Try.prog ops Q rest (a.put o.dst (.int .i64 4)) w') :
    wpList Try.prog ops Q (o :: rest) a (w.alloc (Obj.cells #[.int .u8 a0, .int .u8 a1, .int .u8 a2, .int .u8 a3] 5)) := by
  subst hT
  obtain ⟨g', cap', e, hBg, hgl, hbc, -⟩ := hown.form (by omega)
  injection e with e1 e2 e3
  injection e1 with e1
  injection e1 with e1 _ _
  subst e1 e2 e3
  have hown2 : OwnB (w.alloc (Obj.cells #[.int .u8 a0, .int .u8 a1, .int .u8 a2, .int .u8 a3] 5)) B (.slice (some ⟨g, 0, none⟩) bs.length cp) bs := World.ownsRow.alloc hown _
  have hr := run_copy_cells (P := Try.prog) (w.alloc (Obj.cells #[.int .u8 a0, .int .u8 a1, .int .u8 a2, .int .u8 a3] 5)) 28 28 o.type 5 g 0 bs.length cp ⟨w.heap.size, 0, none⟩ 4 4 [.int .u8 a0, .int .u8 a1, .int .u8 a2, .int .u8 a3] Try.underlying28 (by kernel_rfl) (by
      exact (Nat.min_eq_left hn).symm) (fun j v hj => by
      rw [Go.WideShapes.add_plain, World.cell?_alloc_new, Nat.zero_add, ← hj]; exact List.getElem?_toArray) (fun j hj => by
      have hj4 : j < 4 := hj
      rw [Nat.zero_add, hown2.cell j (by omega)]; rfl) (fun j hj => by rw [Nat.zero_add]; exact World.ownsRow.frozenAt hown2 _) (fun v hv => by
      simp only [List.mem_cons, List.not_mem_nil, or_false] at hv
      rcases hv with rfl | rfl | rfl | rfl <;> rfl)
  generalize w.alloc (Obj.cells #[.int .u8 a0, .int .u8 a1, .int .u8 a2, .int .u8 a3] 5) = W at *
  refine wpList_plain hgd fun K hK => ?_
  unfold Oper.wp execOp
  simp only [ho, resolve, invoke, builtin, Sem.run_bind, Sem.run_pure, Result.andThen_ok, List.map_toArray, List.map_cons, List.map_nil, hs, hd, hr]
  refine hK _ _ (h _ ?_ ?_)
  · have h0 := hown2.stored (by omega) 0 a0
    have h1 := h0.stored (by rw [List.length_set]; omega) 1 a1
    have h2 := h1.stored (by rw [List.length_set, List.length_set]; omega) 2 a2
    have h3 := h2.stored (by rw [List.length_set, List.length_set, List.length_set]; omega) 3 a3
    rw [drop4_of bs hn] at h3
    exact h3
  · exact ((((Only.refl g W).setCell (p := ⟨g, 0, none⟩) rfl (.int .u8 a0)).setCell (p := ⟨g, 1, none⟩) rfl (.int .u8 a1)).setCell (p := ⟨g, 2, none⟩) rfl (.int .u8 a2)).setCell (p := ⟨g, 3, none⟩) rfl (.int .u8 a3)
end Go.Proofs.Ytembppihfcclcaa
