/- Proved here: the reference's reader reads a leaf in brackets, if its item is read. -/
import Derived.Test.YtfdmmnajaebfeaaGreatDoorB3
set_option linter.unusedVariables false
set_option linter.unusedSimpArgs false
set_option maxRecDepth 100000
namespace Go.Proofs.YtfdmmnajaebfeaaGreatDoor
open Go.RowKit Go.Proofs.YtfdmmnajaebfeaaGreatDoorW.PrintWords Go.Proofs.YtfdmmnajaebfeaaGreatDoorW.PrintLast Go.Proofs.YtfdmmnajaebfeaaGreatDoorW.PrintMore
open PTruthCovers (S82 S71 S36 S143 S113 S228 k82 k71 k36 k143 k113 k228 IsS177)

theorem RS.refl_ {w0 w W : World} {g : Nat} {t : ByteArray} {i n : Int} (h : RS w0 w g t i n W) : RS w0 W g t i n W := ⟨h.1, h.2.1, KeepBut.refl _ _ _⟩
theorem RS.trans_ {w0 w w1 W : World} {g : Nat} {t : ByteArray} {i n j m : Int} (h : RS w0 w g t i n w1) (k : RS w0 w1 g t j m W) : RS w0 w g t j m W := ⟨k.1, k.2.1, h.2.2.trans k.2.2 (.inl rfl)⟩
/-- What a reader's filter gives, from i to j. -/
def FiltAt (w0 : World) (g : Nat) (t : ByteArray) (i j n m d : Int) (r : Value) : Prop :=
  ∀ w, RS w0 w g t i n w → Calls Tryz.prog 112 #[.pointer (some ⟨g, 0, none⟩), .int .i64 d] w fun e w' => e = .returned r ∧ RS w0 w g t j m w'

set_option maxHeartbeats 8000000 in
theorem filter_leaf (w0 : World) (g : Nat) (t : ByteArray) (p p1 q n n1 d k : Int) (a b : ByteArray) (hn : 0 ≤ n ∧ n < 1000) (hn1 : n1 = n + 1) (hd : 0 ≤ d ∧ d ≤ 64)
    (h40 : PTruthCovers.castellanref10_Reader_is.f t p n 0 40 = some (true, t, p1, n, 0))
    (h38 : PTruthCovers.castellanref10_Reader_is.f t p1 n1 0 38 = some (false, t, p1, n1, 0))
    (h124 : PTruthCovers.castellanref10_Reader_is.f t p1 n1 0 124 = some (false, t, p1, n1, 0))
    (h33 : PTruthCovers.castellanref10_Reader_is.f t p1 n1 0 33 = some (false, t, p1, n1, 0))
    (hI : ∀ w, RS w0 w g t p1 n1 w → Calls Tryz.prog 153 #[.pointer (some ⟨g, 0, none⟩)] w fun e w' => e = .returned (.agg #[.int .i64 k, .string a, .string b, .slice none 0 0, .slice none 0 0]) ∧ RS w0 w g t q n1 w') :
    FiltAt w0 g t p q n n1 d (.agg #[.int .i64 k, .string a, .string b, .slice none 0 0, .slice none 0 0]) := by
  intro w hR
  have hgz := hR.cells.2.2.2.2.2.2
  have hwz := hR.2.1.size
  have HR := Lib.hid hR
  have H40 := Lib.hid h40
  have H38 := Lib.hid h38
  have H124 := Lib.hid h124
  have H33 := Lib.hid h33
  have HI := Lib.hid hI
  clear hR h40 h38 h124 h33 hI
  go_enter Tryz.func112, Tryz.ntmps112
  go_wp2_with fail
  have hR1 := HR.out.below (below_alloc (Below.refl _ _) (Obj.cells #[Value.int IntKind.i64 0, Value.string { data := #[] }, Value.string { data := #[] }, Value.slice none 0 0, Value.slice none 0 0] 36))
  have hE := heap_alloc_new w (Obj.cells #[Value.int IntKind.i64 0, Value.string { data := #[] }, Value.string { data := #[] }, Value.slice none 0 0, Value.slice none 0 0] 36)
  have hneE : w.heap.size ≠ g := by omega
  have HE := Lib.hid hE; clear hE
  refine (hR1.is 40 true p1 H40.out).mono ?_
  clear hR1
  rintro e W1 ⟨rfl, hR1, hK⟩
  have HE1 := Lib.hid (hK.blk HE.out hneE (by simp))
  obtain ⟨c0, c1, c2, c3, c4, c5, hg⟩ := hR1.cells
  have HR1 := Lib.hid hR1
  clear hR1 hK HE
  go_wp2_with fail
  have hR2 : RS w0 w g t p1 n1 (W1.setCell ⟨g, 2, none⟩ (.int .i64 (n + 1))) := by rw [hn1]; exact HR1.out.set2 (n + 1)
  have hE2 := blk_far HE1.out hneE (.int .i64 (n + 1)) (p := ⟨g, 2, none⟩)
  generalize W1.setCell ⟨g, 2, none⟩ (.int .i64 (n + 1)) = W2 at *
  have HR2 := Lib.hid hR2
  have HE2 := Lib.hid hE2
  clear hR2 hE2 c0 c1 c2 c3 c4 c5 hg HE1 HR1
  have HN1 := Lib.hid hn1
  clear hn1
  go_loopw [5] (fun v wr => ∃ i : Nat, i ≤ 3 ∧ v = .int .i64 i ∧ RS w0 w g t p1 n1 wr ∧ wr.heap[w.heap.size]? = some (.cells #[Value.int IntKind.i64 0, Value.string { data := #[] }, Value.string { data := #[] }, Value.slice none 0 0, Value.slice none 0 0] 36 (0, 0))) (fun v _ => 3 - (intOf v).toNat)
  case atStart => exact ⟨0, by omega, rfl, HR2.out, HE2.out⟩
  case round =>
    clear HR2 HE2
    obtain ⟨i, hi, rfl, hR, hE⟩ := hrel
    have hi4 : i = 0 ∨ i = 1 ∨ i = 2 ∨ i = 3 := by omega
    have HR := Lib.hid hR
    have HE := Lib.hid hE
    clear hR hE
    have hx0 : (⟨#[38, 124, 33]⟩ : ByteArray)[0]'(by decide) = 38 := by decide
    have hx1 : (⟨#[38, 124, 33]⟩ : ByteArray)[1]'(by decide) = 124 := by decide
    have hx2 : (⟨#[38, 124, 33]⟩ : ByteArray)[2]'(by decide) = 33 := by decide
    have hy0 : (38 : UInt8).toNat = 38 := rfl
    have hy1 : (124 : UInt8).toNat = 124 := rfl
    have hy2 : (33 : UInt8).toNat = 33 := rfl
    rcases hi4 with rfl | rfl | rfl | rfl
    · go_wp2_with fail
      refine (HR.out.is 38 false p1 H38.out).mono ?_
      rintro e W4 ⟨rfl, hR, hK⟩
      have HE4 := Lib.hid (hK.blk HE.out hneE (by simp))
      have HR4 := Lib.hid hR
      clear hR hK
      go_wp2
      go_roundw
      case rel => exact ⟨1, by omega, by go_num, HR4.out, HE4.out⟩
      case measure => simp [intOf]
    · go_wp2_with fail
      refine (HR.out.is 124 false p1 H124.out).mono ?_
      rintro e W4 ⟨rfl, hR, hK⟩
      have HE4 := Lib.hid (hK.blk HE.out hneE (by simp))
      have HR4 := Lib.hid hR
      clear hR hK
      go_wp2
      go_roundw
      case rel => exact ⟨2, by omega, by go_num, HR4.out, HE4.out⟩
      case measure => simp [intOf]
    · go_wp2_with fail
      refine (HR.out.is 33 false p1 H33.out).mono ?_
      rintro e W4 ⟨rfl, hR, hK⟩
      have HE4 := Lib.hid (hK.blk HE.out hneE (by simp))
      have HR4 := Lib.hid hR
      clear hR hK
      go_wp2
      go_roundw
      case rel => exact ⟨3, by omega, by go_num, HR4.out, HE4.out⟩
      case measure => simp [intOf]
    · go_wp2_with fail
      refine (HI.out wr ⟨HR.out.1, HR.out.2.1, KeepBut.refl _ _ _⟩).mono ?_
      rintro e W4 ⟨rfl, hR⟩
      have HE4 := Lib.hid (hR.2.2.blk HE.out hneE (by simp))
      have HR4 := Lib.hid (RS.trans_ HR.out hR)
      obtain ⟨z0, z1, z2, z3, z4, zf0, zf1, zf2, zf3, zf4, zl⟩ := facts36 HE4.out
      clear hR
      go_wp2
      exact bodyPost_ret (v := .agg #[.int .i64 k, .string a, .string b, .slice none 0 0, .slice none 0 0]) (by simp [results, Tryz.results112, go_sem, z0, z1, z2, z3, z4]) rfl ⟨rfl, RS.far (RS.far (RS.far (RS.far (RS.far HR4.out (Nat.le_refl _) hwz hneE _) (Nat.le_refl _) hwz hneE _) (Nat.le_refl _) hwz hneE _) (Nat.le_refl _) hwz hneE _) (Nat.le_refl _) hwz hneE _⟩
end Go.Proofs.YtfdmmnajaebfeaaGreatDoor
