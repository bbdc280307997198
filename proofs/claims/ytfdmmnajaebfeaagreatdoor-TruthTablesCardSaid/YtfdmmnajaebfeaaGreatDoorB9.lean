/- Proved here: syntax.Norm under syntax 1, where utf8's two tables lie as laid. -/
import Derived.Test.YtfdmmnajaebfeaaGreatDoorShelfV
import Derived.Test.YtfdmmnajaebfeaaGreatDoorA8
import Derived.Laws.Closers25b
set_option linter.unusedVariables false
set_option linter.unusedSimpArgs false
set_option maxRecDepth 100000
namespace Go.Proofs.YtfdmmnajaebfeaaGreatDoor
open Go.RowKit Go.Proofs.YtfdmmnajaebfeaaGreatDoorW.PrintWords

/-- Layer 12's Norm under syntax 1. -/
def norm1 (v : ByteArray) : ByteArray × Bool := if v.size ≤ 4096 ∧ v.size ≠ 0 ∧ Lib.validD v.data.toList = true then (prepB v, true) else (⟨#[]⟩, false)
theorem size0 {v : ByteArray} (h : v.size = 0) : v = ⟨#[]⟩ := by
  cases v with | mk d =>
  have : d.size = 0 := h
  rw [Array.eq_empty_of_size_eq_zero this]
theorem tabs_later {w W : World} (h : Lib.Utf8Tabs 0 1 w) (h2 : 2 ≤ w.heap.size) (hb : Below w.heap.size w W) : Lib.Utf8Tabs 0 1 W :=
  ⟨fun c hc => (hb.cell (p := ⟨0, c, none⟩) (by show 0 < _; omega)).trans (h.1 c hc), fun i hi => ⟨(hb.cell (p := ⟨1, 2 * i, none⟩) (by show 1 < _; omega)).trans (h.2 i hi).1, (hb.cell (p := ⟨1, 2 * i + 1, none⟩) (by show 1 < _; omega)).trans (h.2 i hi).2⟩⟩

set_option maxHeartbeats 4000000 in
theorem syntax_Norm1 (v : ByteArray) (w : World) (hT : Lib.Utf8Tabs 0 1 w) (h2 : 2 ≤ w.heap.size) (hv : v.size ≤ 140737488351232) :
    Calls Tryz.prog 35 #[.int .i64 1, .string v] w fun e w' => e = .returned (.tuple #[.string (norm1 v).1, .bool (norm1 v).2]) ∧ Below w.heap.size w w' := by
  have HT := Lib.hid hT; clear hT
  by_cases hs : v.size ≤ 4096
  · by_cases h0 : v.size = 0
    · have hv0 := size0 h0
      subst hv0
      go_enter Tryz.func35, Tryz.ntmps35
      go_wp2_with fail
      refine (octet_Prep _ _ (by decide)).mono ?_
      rintro e W ⟨rfl, hW⟩
      have HW := Lib.hid hW; clear hW
      go_wp2
      go_ret2
      exact ⟨rfl, HW.out⟩
    · have hne : ¬ v.toList = [] := fun h => h0 (by rw [(toList_nil_iff_emptyBytes v).1 h]; rfl)
      have hne2 : v.toList.isEmpty = false := by cases h : v.toList with | nil => exact absurd h hne | cons a l => rfl
      have HV := Lib.hid hv
      obtain ⟨b, hb⟩ : ∃ b, b = Lib.validD v.data.toList := ⟨_, rfl⟩
      have HB := Lib.hid hb; clear hb
      cases b
      all_goals
        go_enter Tryz.func35, Tryz.ntmps35
        go_wp2_with fail
        refine (octet_Prep _ _ HV.out).mono ?_
        rintro e W ⟨rfl, hW⟩
        have HW := Lib.hid hW
        have HT2 := Lib.hid (tabs_later HT.out h2 hW); clear hW
        go_wp2_with fail
        refine (Tryz.utf8_ValidString v W (by have := HV.out; omega) HT2.out).mono ?_
        rintro e W2 ⟨rfl, hW2⟩
        rw [← HB.out]
        have HW2 := Lib.hid (HW.out.trans (hW2.mono HW.out.size)); clear hW2
        go_wp2
        go_ret2
      · exact ⟨(by have e : norm1 v = (⟨#[]⟩, false) := by simp [norm1, ← HB.out]
                   rw [e]; rfl), HW2.out⟩
      · exact ⟨(by have e : norm1 v = (prepB v, true) := by simp [norm1, ← HB.out, hs, h0]
                   rw [e]; rfl), HW2.out⟩
  · have hs2 : 4096 < v.size := by omega
    have e : norm1 v = (⟨#[]⟩, false) := by simp [norm1, hs]
    rw [e]
    clear e hs
    go_enter Tryz.func35, Tryz.ntmps35
    go_wp2
    go_ret2
    exact ⟨rfl, Below.refl _ _⟩
end Go.Proofs.YtfdmmnajaebfeaaGreatDoor
