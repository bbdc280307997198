/- Proved here: an entry's Get gives the values that stand under the folded name. -/
import Derived.Test.YtfdmmnajaebfeaaGreatDoorA4
set_option linter.unusedVariables false
set_option linter.unusedSimpArgs false
set_option maxRecDepth 100000
namespace Go.Proofs.YtfdmmnajaebfeaaGreatDoor
open Go.RowKit Go.Proofs.YtfdmmnajaebfeaaGreatDoorW.PrintWords
open PTruthCovers (S82 S71 S36 S143 S113 S228 k82 k71 k36 k143 k113 k228 at_T82 at_T71 rd_T82 rd_T71)

def atVals (l : List S71) (nm : ByteArray) : List ByteArray := if atThere l (foldB nm) = true then (l.getD (atPlace l (foldB nm)) PTruthCovers.z71).f1 else []
theorem atThere_lt {l : List S71} {nm : ByteArray} (h : atThere l nm = true) : atPlace l nm < l.length := by
  unfold atThere at h; simp only [Bool.and_eq_true, decide_eq_true_eq] at h; exact h.1
set_option maxHeartbeats 2000000 in
theorem entry_Get (A : Option Addr) (c : Nat) (l : List S71) (nm : ByteArray) (w : World) (hl : l.length ≤ 140737488351232) (hr : k71.C w A l.length l)
    (ha : ∀ t ∈ l, t.f0.size ≤ 140737488351232) (hv : ∀ t ∈ l, t.f1.length ≤ 8796093022200) (hn : nm.size ≤ 140737488351232) :
    Calls Tryz.prog 34 #[.slice A l.length c, .string nm] w fun e w' => ∃ v, e = .returned v ∧ Kd.string.R 9 w' w.heap.size (fun _ => True) v (atVals l nm) ∧ Below w.heap.size w w' := by
  go_enter Tryz.func34, Tryz.ntmps34
  go_wp2_with fail
  refine (entry_place A c l nm _ hl hr ha hn).mono ?_; rintro e W ⟨rfl, hW⟩
  cases hth : atThere l (foldB nm) with
  | false =>
    have hvl : atVals l nm = [] := by simp [atVals, hth]
    have HV := Lib.hid hvl; clear hvl hth
    have HW := Lib.hid hW; clear hW
    go_wp2
    go_ret
    exact ⟨_, rfl, by rw [HV.out]; exact Kd.R_nil _ _ _ _ _, HW.out⟩
  | true =>
    have hlt := atThere_lt hth
    have hvl : atVals l nm = (l.getD (atPlace l (foldB nm)) PTruthCovers.z71).f1 := by simp [atVals, hth]
    generalize atPlace l (foldB nm) = i at *
    obtain ⟨ad, A1, c1, rfl, h0, h1, h2, h3⟩ := at_T71 (Kd.C_below hr hW) (i : Int) (by omega) (by omega)
    rw [Int.toNat_natCast] at h0 h1
    have hmem : rd_T71 l (i : Int) ∈ l := by
      simp [rd_T71, List.getD_eq_getElem?_getD, List.getElem?_eq_getElem hlt]
    have hrd : l.getD i PTruthCovers.z71 = rd_T71 l (i : Int) := by simp [rd_T71]
    have hsz := hv _ hmem
    rw [hrd] at hvl
    generalize rd_T71 l (i : Int) = t at *
    have HV := Lib.hid hvl; clear hvl hth hrd hmem
    have HW := Lib.hid hW; clear hW
    have HR := Lib.hid h3; clear h3
    go_wp2_with fail
    refine (clone_S A1 c1 t.f1 _ hsz HR.out).mono ?_; rintro e W1 ⟨v, rfl, hR, hW1⟩
    have HRR := Lib.hid hR; clear hR
    have HW1 := Lib.hid hW1; clear hW1
    go_wp2
    go_ret
    exact ⟨_, rfl, by rw [HV.out]; exact Kd.R_lower HRR.out HW.out.size, HW.out.trans (HW1.out.mono HW.out.size)⟩
end Go.Proofs.YtfdmmnajaebfeaaGreatDoor
