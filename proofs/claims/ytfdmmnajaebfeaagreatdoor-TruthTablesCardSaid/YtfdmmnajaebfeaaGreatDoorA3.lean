/- Proved here: a schema's kind and like answer by the folded name, for every row of types that is laid in memory. -/
import Derived.Test.YtfdmmnajaebfeaaGreatDoorA2
import Derived.Test.YtfdmmnajaebfeaaGreatDoorPTruthCoversx0
set_option linter.unusedVariables false
set_option linter.unusedSimpArgs false
set_option maxRecDepth 100000
namespace Go.Proofs.YtfdmmnajaebfeaaGreatDoor
open Go.RowKit Go.Proofs.YtfdmmnajaebfeaaGreatDoorW.PrintWords
open PTruthCovers (S82 S71 S36 S143 S113 S228 k82 k71 k36 k143 k113 k228 at_T82 at_T71 rd_T82 rd_T71)

set_option maxHeartbeats 1000000 in
theorem schema_like (a b : ByteArray) (w : World) (ha : a.size ≤ 140737488351232) (hb : b.size ≤ 140737488351232) :
    Calls Tryz.prog 118 #[.string a, .string b] w fun e w' => e = .returned (.bool ((foldB a).toList == (foldB b).toList)) ∧ Below w.heap.size w w' := by
  go_enter Tryz.func118, Tryz.ntmps118
  go_wp2_with fail
  refine (octet_Fold a _ ha).mono ?_; rintro e W ⟨rfl, hW⟩
  go_wp2_with fail
  refine (octet_Fold b _ hb).mono ?_; rintro e W2 ⟨rfl, hW2⟩
  go_wp2
  go_ret
  exact ⟨rfl, hW.trans (hW2.mono hW.size)⟩

theorem bcell {W w1 : World} (hb : Below W.heap.size W w1) : (∀ b o, b < W.heap.size → w1.cell? ⟨b, o, none⟩ = W.cell? ⟨b, o, none⟩) ∧ (∀ b o, b < W.heap.size → w1.frozen? ⟨b, o, none⟩ = W.frozen? ⟨b, o, none⟩) :=
  ⟨fun b o h => hb.cell (p := ⟨b, o, none⟩) h, fun b o h => hb.frozen (p := ⟨b, o, none⟩) h⟩
def tyV (t : S82) : Value := .agg #[.string t.f0, .int .i64 t.f1, .bool t.f2, .bool t.f3]
set_option maxHeartbeats 1000000 in
theorem kind_1 (t : S82) (nm : ByteArray) (B : Nat) (w : World) (hB : B < w.heap.size) (hc : w.cell? ⟨B, 0, none⟩ = some (.string nm)) (ha : t.f0.size ≤ 140737488351232) (hb : nm.size ≤ 140737488351232) :
    Calls Tryz.prog 117 #[tyV t, .pointer (some ⟨B, 0, none⟩)] w fun e w' => e = .returned (.bool ((foldB t.f0).toList == (foldB nm).toList)) ∧ Below w.heap.size w w' := by
  unfold tyV
  go_enter Tryz.func117, Tryz.ntmps117
  go_wp2_with fail
  refine (schema_like t.f0 nm _ ha hb).mono ?_; rintro e W ⟨rfl, hW⟩
  go_wp2
  go_ret
  exact ⟨rfl, ((Below.refl _ _).alloc (Nat.le_refl _) _).trans (hW.mono (by simp))⟩

def tyAt (l : List S82) (nm : ByteArray) : Option Nat := l.findIdx? fun t => (foldB t.f0).toList == (foldB nm).toList
def tyIx (l : List S82) (nm : ByteArray) : Int := match tyAt l nm with | some i => i | none => -1
theorem findIdx_take_none {α : Type} (p : α → Bool) (l : List α) (k : Nat) (hk : k < l.length) (d : α) (h : (l.take k).findIdx? p = none) :
    (p (l.getD k d) = false → (l.take (k + 1)).findIdx? p = none) ∧ (p (l.getD k d) = true → l.findIdx? p = some k) := by
  rw [List.findIdx?_eq_none_iff] at h
  constructor
  · intro hp
    rw [List.findIdx?_eq_none_iff, List.take_succ_eq_append_getElem hk]
    intro x hx
    rcases List.mem_append.1 hx with hx | hx
    · exact h x hx
    · rw [List.mem_singleton.1 hx]; simpa [List.getD_eq_getElem?_getD, List.getElem?_eq_getElem hk] using hp
  · intro hp
    rw [List.findIdx?_eq_some_iff_getElem]
    refine ⟨hk, by simpa [List.getD_eq_getElem?_getD, List.getElem?_eq_getElem hk] using hp, fun j hj => ?_⟩
    have := h l[j] (by rw [List.mem_take_iff_getElem]; exact ⟨j, by omega, rfl⟩)
    simp [this]

set_option maxHeartbeats 2000000 in
theorem indexFunc_T (A : Option Addr) (c : Nat) (l : List S82) (nm : ByteArray) (B : Nat) (w : World) (hl : l.length ≤ 140737488351232) (hr : k82.C w A l.length l) (hB : B < w.heap.size) (hc : w.cell? ⟨B, 0, none⟩ = some (.string nm))
    (ha : ∀ t ∈ l, t.f0.size ≤ 140737488351232) (hb : nm.size ≤ 140737488351232) :
    Calls Tryz.prog 116 #[.slice A l.length c, .func (.func 117) #[] #[.pointer (some ⟨B, 0, none⟩)]] w fun e w' => e = .returned (.int .i64 (tyIx l nm)) ∧ Below w.heap.size w w' := by
  have HC := Lib.hid hc; clear hc
  go_enter Tryz.func116, Tryz.ntmps116
  go_wp2
  go_loopw [8] (fun i wr => ∃ k : Nat, k ≤ l.length ∧ i = .int .i64 k ∧ tyAt (l.take k) nm = none ∧ Below w.heap.size w wr) (fun i _ => l.length - (intOf i).toNat)
  case atStart => exact ⟨0, Nat.zero_le _, rfl, rfl, Below.refl _ _⟩
  case round =>
    obtain ⟨k, hk, rfl, hn, hW⟩ := hrel
    by_cases hlt : k < l.length
    · obtain ⟨ad, rfl, h0, h1, h2, h3⟩ := at_T82 (Kd.C_below hr hW) (k : Int) (by omega) (by omega)
      rw [Int.toNat_natCast] at h0 h1 h2 h3
      have hmem : rd_T82 l (k : Int) ∈ l := by
        simp [rd_T82, List.getD_eq_getElem?_getD, List.getElem?_eq_getElem hlt]
      have hst := findIdx_take_none (fun t : S82 => (foldB t.f0).toList == (foldB nm).toList) l k hlt PTruthCovers.z82 hn
      have hrd : l.getD k PTruthCovers.z82 = rd_T82 l (k : Int) := by simp [rd_T82]
      rw [hrd] at hst
      have hsz := ha _ hmem
      generalize rd_T82 l (k : Int) = t at *
      have HST := Lib.hid hst; clear hst hn hrd
      have hcB : wr.cell? ⟨B, 0, none⟩ = some (.string nm) := (hW.cell (p := ⟨B, 0, none⟩) hB).trans HC.out
      go_wp2_with fail
      refine (kind_1 t nm B _ (Nat.lt_of_lt_of_le hB hW.size) hcB hsz hb).mono ?_; rintro e W ⟨rfl, hW1⟩
      have hW2 : Below w.heap.size w W := hW.trans (hW1.mono hW.size)
      clear hW1 hcB h0 h1 h2 h3
      have HW := Lib.hid hW2; clear hW2 hW
      by_cases hp : ((foldB t.f0).toList == (foldB nm).toList) = true
      · go_wp2
        go_ret
        exact ⟨ret_int (by simp [tyIx, tyAt, HST.out.2 hp]), HW.out⟩
      · have hp : ((foldB t.f0).toList == (foldB nm).toList) = false := by simpa using hp
        go_wp2
        go_roundw
        case rel => exact ⟨k + 1, by omega, by go_num, HST.out.1 hp, HW.out⟩
        case measure => simp [intOf]; omega
    · have hks : k = l.length := by omega
      have hn2 : tyIx l nm = -1 := by
        unfold tyIx; rw [hks, List.take_of_length_le (Nat.le_refl _)] at hn; rw [hn]
      have HN := Lib.hid hn2; clear hn2 hn hks
      have HW := Lib.hid hW; clear hW
      go_wp2
      go_ret
      exact ⟨ret_int HN.out.symm, HW.out⟩

def tyGet (l : List S82) (nm : ByteArray) : S82 × Bool := match tyAt l nm with | some i => (l.getD i PTruthCovers.z82, true) | none => (PTruthCovers.z82, false)
theorem tyAt_lt {l : List S82} {nm : ByteArray} {i : Nat} (h : tyAt l nm = some i) : i < l.length := by
  unfold tyAt at h
  rw [List.findIdx?_eq_some_iff_getElem] at h
  exact h.1
set_option maxHeartbeats 2000000 in
theorem schema_kind (A : Option Addr) (c : Nat) (l : List S82) (v2 : Value) (nm : ByteArray) (w : World) (hl : l.length ≤ 140737488351232) (hr : k82.C w A l.length l)
    (ha : ∀ t ∈ l, t.f0.size ≤ 140737488351232) (hb : nm.size ≤ 140737488351232) :
    Calls Tryz.prog 66 #[.agg #[.slice A l.length c, v2], .string nm] w fun e w' => e = .returned (.tuple #[tyV (tyGet l nm).1, .bool (tyGet l nm).2]) ∧ Below w.heap.size w w' := by
  go_enter Tryz.func66, Tryz.ntmps66
  go_wp2_with fail
  have hB0 : Below w.heap.size w (((w.alloc (Obj.cells #[Value.slice A l.length c, v2] 126)).alloc (Obj.cells #[Value.string nm] 9)).alloc (.cells #[.string ⟨#[]⟩, .int .i64 0, .bool false, .bool false] 82)) :=
    (((Below.refl _ _).alloc (Nat.le_refl _) _).alloc (by simp) _).alloc (by simp; omega) _
  have hC := indexFunc_T A c l nm (w.heap.size + 1) _ hl (Kd.C_below hr hB0) (by simp) (by simp [go_sem]) ha hb
  refine hC.mono ?_
  clear hC
  rintro e W ⟨rfl, hW⟩
  obtain ⟨hc, hf⟩ := bcell hW
  have hz := hW.size
  have hBW : Below w.heap.size w W := hB0.trans (hW.mono hB0.size)
  have HB := Lib.hid hBW
  cases hx : tyAt l nm with
  | none =>
    have e1 : tyIx l nm = -1 := by simp [tyIx, hx]
    rw [e1]
    have e2 : tyGet l nm = (PTruthCovers.z82, false) := by simp [tyGet, hx]
    have E2 := Lib.hid e2; clear e2 hx e1 hBW hB0
    go_wp2
    exact bodyPost_ret (v := .tuple #[.agg #[.string ⟨#[]⟩, .int .i64 0, .bool false, .bool false], .bool false]) (by simp [results, Tryz.results66, go_sem, hc, hz]) rfl ⟨by rw [E2.out]; rfl, by repeat (first | exact HB.out | refine Below.setCell ?_ (by show _ ≤ _; simp; omega) _ | refine Below.setCell ?_ (by show _ ≤ _; omega) _)⟩
  | some i =>
    have hi := tyAt_lt hx
    have e1 : tyIx l nm = (i : Int) := by simp [tyIx, hx]
    rw [e1]
    have e2 : tyGet l nm = (l.getD i PTruthCovers.z82, true) := by simp [tyGet, hx]
    obtain ⟨ad, rfl, h0, h1, h2, h3⟩ := at_T82 (Kd.C_below hr hBW) (i : Int) (by omega) (by omega)
    rw [Int.toNat_natCast] at h0 h1 h2 h3
    have hrd : l.getD i PTruthCovers.z82 = rd_T82 l (i : Int) := by simp [rd_T82]
    rw [hrd] at e2
    generalize rd_T82 l (i : Int) = t at *
    have E2 := Lib.hid e2; clear e2 hx e1 hBW hB0 hrd
    go_wp2
    exact bodyPost_ret (v := .tuple #[.agg #[.string t.f0, .int .i64 t.f1, .bool t.f2, .bool t.f3], .bool true]) (by simp [results, Tryz.results66, go_sem, hc, hz]) rfl ⟨by rw [E2.out]; rfl, by repeat (first | exact HB.out | refine Below.setCell ?_ (by show _ ≤ _; simp; omega) _ | refine Below.setCell ?_ (by show _ ≤ _; omega) _)⟩
end Go.Proofs.YtfdmmnajaebfeaaGreatDoor
