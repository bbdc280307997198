/- Proved here: the reference's reader reads one item, at one text and place. -/
import Derived.Test.YtfdmmnajaebfeaaGreatDoorB2
import Derived.Test.YtfdmmnajaebfeaaGreatDoorA8
import Derived.Test.YtfdmmnajaebfeaaGreatDoorPTruthCoversx10
import Derived.Deep.QuietTactic
import Derived.BigQuiet
import Derived.Deep.RegionHeld3
set_option linter.unusedVariables false
set_option linter.unusedSimpArgs false
set_option maxRecDepth 100000
namespace Go.Proofs.YtfdmmnajaebfeaaGreatDoor
open Go.RowKit Go.Proofs.YtfdmmnajaebfeaaGreatDoorW.PrintWords Go.Proofs.YtfdmmnajaebfeaaGreatDoorW.PrintLast Go.Proofs.YtfdmmnajaebfeaaGreatDoorW.PrintMore
open PTruthCovers (S82 S71 S36 S143 S113 S228 k82 k71 k36 k143 k113 k228 IsS177)

/-- The reader stands at i. -/
def RS (w0 w : World) (g : Nat) (t : ByteArray) (i n : Int) (W : World) : Prop := IsS177 w0 W g t i n 0 ∧ Below w0.heap.size w0 W ∧ KeepBut w W g none
theorem RS.below {w0 w W W1 : World} {g : Nat} {t : ByteArray} {i n : Int} (h : RS w0 w g t i n W) (hb : Below W.heap.size W W1) : RS w0 w g t i n W1 :=
  ⟨h.1.below hb, h.2.1.trans (hb.mono h.2.1.size), h.2.2.trans (KeepBut.of_below hb g none) (.inl rfl)⟩
theorem RS.set1 {w0 w W : World} {g : Nat} {t : ByteArray} {i n : Int} (h : RS w0 w g t i n W) (j : Int) : RS w0 w g t j n (W.setCell ⟨g, 1, none⟩ (.int .i64 j)) :=
  ⟨h.1.set_1 j, below_set h.2.1 h.1.2, h.2.2.set_ 1 _⟩
theorem RS.set2 {w0 w W : World} {g : Nat} {t : ByteArray} {i n : Int} (h : RS w0 w g t i n W) (j : Int) : RS w0 w g t i j (W.setCell ⟨g, 2, none⟩ (.int .i64 j)) :=
  ⟨h.1.set_2 j, below_set h.2.1 h.1.2, h.2.2.set_ 2 _⟩
theorem RS.is {w0 w W : World} {g : Nat} {t : ByteArray} {i n : Int} (h : RS w0 w g t i n W) (c : Int) (b : Bool) (j : Int) (hf : PTruthCovers.castellanref10_Reader_is.f t i n 0 c = some (b, t, j, n, 0)) :
    Calls Tryz.prog 151 #[.pointer (some ⟨g, 0, none⟩), .int .u8 c] W fun e w' => e = .returned (.bool b) ∧ RS w0 w g t j n w' ∧ KeepBut W w' g none :=
  (PTruthCovers.castellanref10_Reader_is.calls g t i n 0 c b t j n 0 w0 W h.1 h.2.1 hf).mono fun e w' ⟨h1, h2, h3, h4⟩ => ⟨h1, ⟨h2, h3, h.2.2.trans h4 (.inl rfl)⟩, h4⟩
theorem RS.cells {w0 w W : World} {g : Nat} {t : ByteArray} {i n : Int} (h : RS w0 w g t i n W) :
    W.cell? ⟨g, 0, none⟩ = some (.string t) ∧ W.cell? ⟨g, 1, none⟩ = some (.int .i64 i) ∧ W.cell? ⟨g, 2, none⟩ = some (.int .i64 n) ∧ W.cell? ⟨g, 3, none⟩ = some (.int .i64 0) ∧ W.frozen? ⟨g, 1, none⟩ = false ∧ W.frozen? ⟨g, 2, none⟩ = false ∧ g < W.heap.size :=
  ⟨PTruthCovers.cellS177_0 h.1.1, PTruthCovers.cellS177_1 h.1.1, PTruthCovers.cellS177_2 h.1.1, PTruthCovers.cellS177_3 h.1.1, blk_frozen h.1.1 1, blk_frozen h.1.1 2, blk_lt h.1.1⟩
theorem RS.far {w0 w W : World} {g : Nat} {t : ByteArray} {i n : Int} (h : RS w0 w g t i n W) {b j : Nat} (hp : w.heap.size ≤ b) (hw : w0.heap.size ≤ w.heap.size) (hne : b ≠ g) (u : Value) : RS w0 w g t i n (W.setCell ⟨b, j, none⟩ u) :=
  ⟨h.1.far (p := ⟨b, j, none⟩) (Ne.symm hne) u, h.2.1.setCell (p := ⟨b, j, none⟩) (Nat.le_trans hw hp) u, keep_far h.2.2 (p := ⟨b, j, none⟩) hp u⟩
theorem vals_one {w1 : World} {B : Nat} {ok : Nat → Prop} {v1 : Value} {vb : ByteArray} (hr : Kd.string.R 9 w1 B ok v1 ([] ++ [vb])) : ∃ ad c, v1 = .slice (some ad) 1 c ∧ w1.cell? (ad.add 0) = some (.string vb) ∧ w1.cell? ad = some (.string vb) := by
  obtain ⟨inner, ho, hr2⟩ := hr.2
  obtain ⟨A, c, e, _, hC⟩ := Kd.R_reads hr
  obtain ⟨ad, e2, hx⟩ := Kd.at_string hC 0 (by omega) (by simp)
  subst e2
  have h0 : ad.add 0 = ad := by simp [Addr.add]
  have h1 : w1.cell? (ad.add 0) = some (.string vb) := by simpa [rdOf] using hx
  exact ⟨ad, c, by rw [e]; rfl, h1, by rw [← h0]; exact h1⟩
theorem facts36 {W : World} {b : Nat} {a0 a1 a2 a3 a4 : Value} (h : W.heap[b]? = some (.cells #[a0, a1, a2, a3, a4] 36 (0, 0))) :
    W.cell? ⟨b, 0, none⟩ = some a0 ∧ W.cell? ⟨b, 1, none⟩ = some a1 ∧ W.cell? ⟨b, 2, none⟩ = some a2 ∧ W.cell? ⟨b, 3, none⟩ = some a3 ∧ W.cell? ⟨b, 4, none⟩ = some a4 ∧
    W.frozen? ⟨b, 0, none⟩ = false ∧ W.frozen? ⟨b, 1, none⟩ = false ∧ W.frozen? ⟨b, 2, none⟩ = false ∧ W.frozen? ⟨b, 3, none⟩ = false ∧ W.frozen? ⟨b, 4, none⟩ = false ∧ b < W.heap.size :=
  ⟨(blk_cell h 0).trans rfl, (blk_cell h 1).trans rfl, (blk_cell h 2).trans rfl, (blk_cell h 3).trans rfl, (blk_cell h 4).trans rfl, blk_frozen h 0, blk_frozen h 1, blk_frozen h 2, blk_frozen h 3, blk_frozen h 4, blk_lt h⟩
theorem ne36 {W : World} {b c : Nat} {a0 a1 a2 a3 a4 : Value} (h : W.heap[b]? = some (.cells #[.int .i64 3, a1, a2, a3, a4] 36 (0, 0))) (h' : W.heap[c]? = some (.cells #[.int .i64 0, a0, a2, a3, a4] 36 (0, 0))) : b ≠ c := by
  rintro rfl
  have := h.symm.trans h'
  simp at this
theorem isF_no {t : ByteArray} {i n c : Int} (h0 : 0 ≤ i) (h1 : i < (t.size : Int)) (h2 : bt t i ≠ c) : PTruthCovers.castellanref10_Reader_is.f t i n 0 c = some (false, t, i, n, 0) := by
  unfold PTruthCovers.castellanref10_Reader_is.f; rw [if_pos h1, if_pos h0, if_neg h2]
theorem isF_yes {t : ByteArray} {i j n c : Int} (h0 : 0 ≤ i) (h1 : i < (t.size : Int)) (h2 : bt t i = c) (hj : wrap64 (i + 1) = j) : PTruthCovers.castellanref10_Reader_is.f t i n 0 c = some (true, t, j, n, 0) := by
  unfold PTruthCovers.castellanref10_Reader_is.f; rw [if_pos h1, if_pos h0, if_pos h2, hj]
/-- Where a reader stands, out of its cell. -/
def rdAt (g : Nat) (W : World) : Nat := match W.cell? ⟨g, 1, none⟩ with | some v => (intOf v).toNat | none => 0
theorem RS.at_ {w0 w W : World} {g : Nat} {t : ByteArray} {i n : Int} (h : RS w0 w g t i n W) : rdAt g W = i.toNat := by
  unfold rdAt; rw [h.cells.2.1]; rfl

set_option maxHeartbeats 8000000 in
theorem item_A (w0 w : World) (g : Nat) (n : Int) (hR : RS w0 w g (⟨#[40, 99, 110, 61, 65, 41]⟩ : ByteArray) 1 n w) :
    Calls Tryz.prog 153 #[.pointer (some ⟨g, 0, none⟩)] w fun e w' => e = .returned (.agg #[.int .i64 3, .string (⟨#[99, 110]⟩ : ByteArray), .string (⟨#[65]⟩ : ByteArray), .slice none 0 0, .slice none 0 0]) ∧ RS w0 w g (⟨#[40, 99, 110, 61, 65, 41]⟩ : ByteArray) 6 n w' := by
  obtain ⟨c0, c1, c2, c3, c4, c5, hg⟩ := hR.cells
  have HR := Lib.hid hR; clear hR
  go_enter Tryz.func153, Tryz.ntmps153
  go_wp2_with fail
  have hR1 := HR.out.below (below_alloc (Below.refl _ _) (Obj.cells #[Value.int IntKind.i64 0, Value.string { data := #[] }, Value.string { data := #[] }, Value.slice none 0 0, Value.slice none 0 0] 36))
  have hE := heap_alloc_new w (Obj.cells #[Value.int IntKind.i64 0, Value.string { data := #[] }, Value.string { data := #[] }, Value.slice none 0 0, Value.slice none 0 0] 36)
  have HR1 := Lib.hid hR1
  have HE := Lib.hid hE
  clear hR1 hE c0 c1 c2 c3 c4 c5
  generalize w.alloc (Obj.cells #[Value.int IntKind.i64 0, Value.string { data := #[] }, Value.string { data := #[] }, Value.slice none 0 0, Value.slice none 0 0] 36) = W1 at *
  have ht0 : typeB ((⟨#[40, 99, 110, 61, 65, 41]⟩ : ByteArray).extract 1 2) = true := by decide
  have ht1 : typeB ((⟨#[40, 99, 110, 61, 65, 41]⟩ : ByteArray).extract 1 3) = true := by decide
  have ht2 : typeB ((⟨#[40, 99, 110, 61, 65, 41]⟩ : ByteArray).extract 1 4) = false := by decide
  go_loopw [41] (fun _ wr => ∃ j : Nat, j ≤ 2 ∧ RS w0 w g (⟨#[40, 99, 110, 61, 65, 41]⟩ : ByteArray) (1 + (j : Int)) n wr ∧ wr.heap[w.heap.size]? = some (.cells #[Value.int IntKind.i64 0, Value.string { data := #[] }, Value.string { data := #[] }, Value.slice none 0 0, Value.slice none 0 0] 36 (0, 0))) (fun _ wr => 20 - rdAt g wr)
  case atStart => exact ⟨0, by omega, HR1.out, HE.out⟩
  case round =>
    clear HR1 HE
    obtain ⟨j, hj, hR, hE⟩ := hrel
    have h3 : j = 0 ∨ j = 1 ∨ j = 2 := by omega
    have HE := Lib.hid hE; clear hE
    rcases h3 with rfl | rfl | rfl
    · obtain ⟨c0, c1, c2, c3, c4, c5, hg⟩ := hR.cells
      have HR2 := Lib.hid hR; clear hR
      simp at c1
      have hw : IntKind.i64.wrap 2 = 2 := by decide
      go_wp2_with fail
      go_region_held3 (fun w' => w'.cell? ⟨g, 1, none⟩ = some (.int .i64 1) ∧ w'.cell? ⟨g, 0, none⟩ = some (.string (⟨#[40, 99, 110, 61, 65, 41]⟩ : ByteArray))) (go_keep) (first | (go_at_call 113; refine (r9_Type _ _ (by decide)).mono ?_; rintro e W2 ⟨rfl, hW2⟩; rw [ht0]; have hB2 : Below wr.heap.size wr W2 := ((Below.refl wr.heap.size wr).drew).trans hW2; have hR3 := HR2.out.below hB2; obtain ⟨d0, d1, d2, d3, d4, d5, hg2⟩ := hR3.cells; simp at d1; have HE2 : Hid (W2.heap[w.heap.size]? = _) := Lib.hid ((hB2.block _ (blk_lt HE.out)).trans HE.out); have HR3 := Lib.hid hR3; clear hW2 hB2 hR3 c0 c1 c2 c3 c4 c5 hg))
      go_wp2
      go_roundw
      case rel => exact ⟨1, by omega, HR3.out.set1 _, blk_far HE2.out (by simp; omega) _⟩
      case measure => (have h1 := (HR2.out).at_; have h2 := (HR3.out.set1 (1+1)).at_; simp at h1 h2; rw [h1, h2]; decide)
    · obtain ⟨c0, c1, c2, c3, c4, c5, hg⟩ := hR.cells
      have HR2 := Lib.hid hR; clear hR
      simp at c1
      have hw : IntKind.i64.wrap 3 = 3 := by decide
      go_wp2_with fail
      go_region_held3 (fun w' => w'.cell? ⟨g, 1, none⟩ = some (.int .i64 2) ∧ w'.cell? ⟨g, 0, none⟩ = some (.string (⟨#[40, 99, 110, 61, 65, 41]⟩ : ByteArray))) (go_keep) (first | (go_at_call 113; refine (r9_Type _ _ (by decide)).mono ?_; rintro e W2 ⟨rfl, hW2⟩; rw [ht1]; have hB2 : Below wr.heap.size wr W2 := ((Below.refl wr.heap.size wr).drew).trans hW2; have hR3 := HR2.out.below hB2; obtain ⟨d0, d1, d2, d3, d4, d5, hg2⟩ := hR3.cells; simp at d1; have HE2 : Hid (W2.heap[w.heap.size]? = _) := Lib.hid ((hB2.block _ (blk_lt HE.out)).trans HE.out); have HR3 := Lib.hid hR3; clear hW2 hB2 hR3 c0 c1 c2 c3 c4 c5 hg))
      go_wp2
      go_roundw
      case rel => exact ⟨2, by omega, HR3.out.set1 _, blk_far HE2.out (by simp; omega) _⟩
      case measure => (have h1 := (HR2.out).at_; have h2 := (HR3.out.set1 (1+2)).at_; simp at h1 h2; rw [h1, h2]; decide)
    · obtain ⟨c0, c1, c2, c3, c4, c5, hg⟩ := hR.cells
      have HR2 := Lib.hid hR; clear hR
      simp at c1
      have hw : IntKind.i64.wrap 4 = 4 := by decide
      go_wp2_with fail
      go_region_held3 (fun w' => w'.cell? ⟨g, 1, none⟩ = some (.int .i64 3) ∧ w'.cell? ⟨g, 0, none⟩ = some (.string (⟨#[40, 99, 110, 61, 65, 41]⟩ : ByteArray))) (go_keep) (first | (go_at_call 113; refine (r9_Type _ _ (by decide)).mono ?_; rintro e W2 ⟨rfl, hW2⟩; rw [ht2]; have hB2 : Below wr.heap.size wr W2 := ((Below.refl wr.heap.size wr).drew).trans hW2; have hR3 := HR2.out.below hB2; obtain ⟨d0, d1, d2, d3, d4, d5, hg2⟩ := hR3.cells; simp at d1; have HE2 : Hid (W2.heap[w.heap.size]? = _) := Lib.hid ((hB2.block _ (blk_lt HE.out)).trans HE.out); have HR3 := Lib.hid hR3; clear hW2 hB2 hR3 c0 c1 c2 c3 c4 c5 hg))
      have het : (⟨#[40, 99, 110, 61, 65, 41]⟩ : ByteArray).extract 1 3 = (⟨#[99, 110]⟩ : ByteArray) := by decide
      go_wp2_with fail
      go_region_held3 (fun w' => w'.cell? ⟨g, 1, none⟩ = some (.int .i64 3) ∧ w'.cell? ⟨g, 0, none⟩ = some (.string (⟨#[40, 99, 110, 61, 65, 41]⟩ : ByteArray))) (go_keep) (fail)
      go_wp2_with fail
      obtain ⟨e1, he1⟩ : ∃ e1, e1 = W2.heap.size := ⟨_, rfl⟩
      have hb5 : Below W2.heap.size W2 (W2.alloc (Obj.cells #[Value.int IntKind.i64 3, Value.string (⟨#[99, 110]⟩ : ByteArray), Value.string { data := #[] }, Value.slice none 0 0, Value.slice none 0 0] 36)).drew := (below_alloc (Below.refl _ _) _).drew
      have hR5 : RS w0 w g (⟨#[40, 99, 110, 61, 65, 41]⟩ : ByteArray) 3 n _ := HR3.out.below hb5
      have hE5 := (hb5.block _ (blk_lt HE2.out)).trans HE2.out
      have hF5 : (W2.alloc (Obj.cells #[Value.int IntKind.i64 3, Value.string (⟨#[99, 110]⟩ : ByteArray), Value.string { data := #[] }, Value.slice none 0 0, Value.slice none 0 0] 36)).drew.heap[e1]? = some (.cells #[Value.int IntKind.i64 3, Value.string (⟨#[99, 110]⟩ : ByteArray), Value.string { data := #[] }, Value.slice none 0 0, Value.slice none 0 0] 36 (0, 0)) := by rw [he1]; exact heap_alloc_new W2 _
      have hne : e1 ≠ g := by omega
      have hege : w.heap.size ≤ e1 := by have := blk_lt HE2.out; omega
      have hneE : w.heap.size ≠ g := by omega
      rw [← he1]
      generalize (W2.alloc (Obj.cells #[Value.int IntKind.i64 3, Value.string (⟨#[99, 110]⟩ : ByteArray), Value.string { data := #[] }, Value.slice none 0 0, Value.slice none 0 0] 36)).drew = W5 at *
      have hgz : g < w.heap.size := hg
      clear hb5 d0 d1 d2 d3 d4 d5 hg2 HE2 HR3 HR2 HE hw hj he1
      have HR5 := Lib.hid hR5
      have HE5 := Lib.hid hE5
      have HF5 := Lib.hid hF5
      clear hR5 hE5 hF5
      refine (HR5.out.is 62 false 3 (isF_no (by decide) (by decide) (by decide))).mono ?_
      rintro e W6 ⟨rfl, hR, hK⟩
      have HR6 := Lib.hid hR
      have HE6 := Lib.hid (hK.blk HE5.out hneE (by simp))
      have HF6 := Lib.hid (hK.blk HF5.out hne (by simp))
      clear hR hK HR5 HE5 HF5
      go_wp2_with fail
      refine (HR6.out.is 60 false 3 (isF_no (by decide) (by decide) (by decide))).mono ?_
      rintro e W7 ⟨rfl, hR, hK⟩
      have HR7 := Lib.hid hR
      have HE7 := Lib.hid (hK.blk HE6.out hneE (by simp))
      have HF7 := Lib.hid (hK.blk HF6.out hne (by simp))
      clear hR hK HR6 HE6 HF6
      go_wp2_with fail
      refine (HR7.out.is 126 false 3 (isF_no (by decide) (by decide) (by decide))).mono ?_
      rintro e W8 ⟨rfl, hR, hK⟩
      have HR8 := Lib.hid hR
      have HE8 := Lib.hid (hK.blk HE7.out hneE (by simp))
      have HF8 := Lib.hid (hK.blk HF7.out hne (by simp))
      clear hR hK HR7 HE7 HF7
      go_wp2_with fail
      refine (HR8.out.is 61 true 4 (isF_yes (by decide) (by decide) (by decide) (by unfold wrap64; omega))).mono ?_
      rintro e W9 ⟨rfl, hR, hK⟩
      have HR9 := Lib.hid hR
      have HE9 := Lib.hid (hK.blk HE8.out hneE (by simp))
      have HF9 := Lib.hid (hK.blk HF8.out hne (by simp))
      clear hR hK HR8 HE8 HF8
      go_wp2_with fail
      go_loopw [5, 6, 7] (fun v5 v6 v7 wr => v5 = .int .i64 0 ∧ v6 = .slice none 0 0 ∧ wr.heap[w.heap.size]? = some (.cells #[Value.int IntKind.i64 0, Value.string { data := #[] }, Value.string { data := #[] }, Value.slice none 0 0, Value.slice none 0 0] 36 (0, 0)) ∧ wr.heap[e1]? = some (.cells #[Value.int IntKind.i64 3, Value.string (⟨#[99, 110]⟩ : ByteArray), Value.string { data := #[] }, Value.slice none 0 0, Value.slice none 0 0] 36 (0, 0)) ∧ ((RS w0 w g (⟨#[40, 99, 110, 61, 65, 41]⟩ : ByteArray) 4 n wr ∧ v7 = .slice none 0 0) ∨ (RS w0 w g (⟨#[40, 99, 110, 61, 65, 41]⟩ : ByteArray) 5 n wr ∧ ∃ B, wr.ownsRow B 5 1 v7 1 (nums .u8 [65])))) (fun _ _ _ wr => 20 - rdAt g wr)
      case atStart => exact ⟨rfl, rfl, HE9.out, HF9.out, .inl ⟨HR9.out, rfl⟩⟩
      case round =>
        clear HE9 HF9 HR9
        obtain ⟨rfl, rfl, hE, hF, ⟨hR, rfl⟩ | ⟨hR, B, hO⟩⟩ := hrel
        · have HR2 := Lib.hid hR
          have HE := Lib.hid hE
          have HF := Lib.hid hF
          clear hR hE hF
          go_wp2_with fail
          refine (HR2.out.is 41 false 4 (isF_no (by decide) (by decide) (by decide))).mono ?_
          rintro e W4 ⟨rfl, hR, hK⟩
          have HR4 := Lib.hid hR
          have HE4 := Lib.hid (hK.blk HE.out hneE (by simp))
          have HF4 := Lib.hid (hK.blk HF.out hne (by simp))
          obtain ⟨c0, c1, c2, c3, c4, c5, hg⟩ := hR.cells
          clear hR hK
          go_wp2_with fail
          go_region_held3 (fun w' => w'.cell? ⟨g, 1, none⟩ = some (.int .i64 4) ∧ w'.cell? ⟨g, 0, none⟩ = some (.string (⟨#[40, 99, 110, 61, 65, 41]⟩ : ByteArray))) (go_keep) (fail)
          go_wp2_with fail
          have hix : (⟨#[40, 99, 110, 61, 65, 41]⟩ : ByteArray)[4]'(by decide) = 65 := by decide
          have hix2 : (65 : UInt8).toNat = 65 := rfl
          have hw : IntKind.i64.wrap 5 = 5 := by decide
          go_region_held3 (fun w' => w'.cell? ⟨g, 1, none⟩ = some (.int .i64 4) ∧ w'.cell? ⟨g, 0, none⟩ = some (.string (⟨#[40, 99, 110, 61, 65, 41]⟩ : ByteArray))) (go_keep) (fail)
          obtain ⟨W6, h6⟩ : ∃ W6, W6 = W4.drew.drew := ⟨_, rfl⟩
          rw [← h6]
          have hb6 : Below W4.heap.size W4 W6 := by rw [h6]; exact (Below.refl _ _).drew.drew
          have hR6 := HR4.out.below hb6
          have HE6 := Lib.hid ((hb6.block _ (blk_lt HE4.out)).trans HE4.out)
          have HF6 := Lib.hid ((hb6.block _ (blk_lt HF4.out)).trans HF4.out)
          clear h6 hb6 c0 c1 c2 c3 c4 c5 hg
          obtain ⟨c0, c1, c2, c3, c4, c5, hg⟩ := hR6.cells
          have HR6 := Lib.hid hR6
          clear hR6
          go_wp2_with ((at_builtin; refine print_append_num (w0 := W6.setCell ⟨g, 1, none⟩ (.int .i64 5)) (W6.setCell ⟨g, 1, none⟩ (.int .i64 5)).heap.size rfl (.tmp 177) (.tmp 179) 185 5 .u8 1 rfl Tryz.underlying185 info5 (by decide) _ [] 65 rfl (by rw [World.size_setCell]; rfl) (own_nil _ _ _ _) (Below.refl _ _) (Nat.le_refl _) (by decide) ?_; intro v1 w1 ho hb1 hg hat; clear hg hat; have HO1 := Lib.hid ho; have HB1 := Lib.hid hb1; clear ho hb1))
          have hb7 : Below (W6.setCell ⟨g, 1, none⟩ (.int .i64 5)).heap.size (W6.setCell ⟨g, 1, none⟩ (.int .i64 5)) w1 := HB1.out
          have hR7 := (HR6.out.set1 5).below hb7
          have hE7 := (hb7.block _ (blk_lt (blk_far HE6.out hneE _))).trans (blk_far HE6.out hneE _)
          have hF7 := (hb7.block _ (blk_lt (blk_far HF6.out hne _))).trans (blk_far HF6.out hne _)
          go_roundw
          case rel => exact ⟨rfl, rfl, hE7, hF7, .inr ⟨hR7, _, HO1.out⟩⟩
          case measure => (have h1 := (HR2.out).at_; have h2 := hR7.at_; simp at h1 h2; rw [h1, h2]; decide)
        · have HR2 := Lib.hid hR
          have HE := Lib.hid hE
          have HF := Lib.hid hF
          have HO := Lib.hid hO
          clear hR hE hF hO
          obtain ⟨A7, k7, rfl⟩ := own_slice HO.out
          go_wp2_with fail
          refine (HR2.out.is 41 true 6 (isF_yes (by decide) (by decide) (by decide) (by unfold wrap64; omega))).mono ?_
          rintro e W4 ⟨rfl, hR, hK⟩
          have HR4 := Lib.hid hR
          have HE4 := Lib.hid (hK.blk HE.out hneE (by simp))
          have HF4 := Lib.hid (hK.blk HF.out hne (by simp))
          have hO4 := hK.own HO.out (fun h => own_ne HO.out HR2.out.1.1 (by decide) h.symm) (by cases h : (Value.slice A7 1 k7).ownBlock <;> simp)
          have hcv := own_string (P := Tryz.prog) Tryz.underlying185 Tryz.underlying5 Tryz.underlying9 hO4
          have hs : strOfNums [(65 : Int)] = (⟨#[65]⟩ : ByteArray) := strOfNums_ints [65]
          rw [hs] at hcv
          clear hR hK hO4 hs
          go_wp2_with ((at_builtin; refine Kd.R_append Kd.string (w0 := W4) W4.heap.size rfl (.tmp 181) (.tmp 184) 48 9 (.string ⟨#[]⟩) 16 rfl Tryz.underlying48 info9 rfl (by decide) (by omega) (.slice none 0 0) [] (⟨#[65]⟩ : ByteArray) [.string (⟨#[65]⟩ : ByteArray)] (fun _ => True) (fun _ => False) rfl rfl rfl (fun _ hk => hk.elim) (fun _ _ => trivial) (Kd.R_nil _ _ _ _ _) (Below.refl _ _) (Nat.le_refl _) (by decide) ?_; intro v1 w1 hr hb hg hat; clear hg hat; (obtain ⟨ad, q1, hv1, hx1, hx2⟩ := vals_one hr); subst hv1; have hF9 := (hb.block _ (blk_lt HF4.out)).trans HF4.out; have hE9 := (hb.block _ (blk_lt HE4.out)).trans HE4.out; (obtain ⟨f0, f1, f2, f3, f4, ff0, ff1, ff2, ff3, ff4, fl⟩ := facts36 hF9); (obtain ⟨z0, z1, z2, z3, z4, zf0, zf1, zf2, zf3, zf4, zl⟩ := facts36 hE9); have hee : e1 ≠ w.heap.size := ne36 HF4.out HE4.out; have HR9 := Lib.hid (HR4.out.below hb); clear hF9 hE9 hr hb))
          have hww := HR.out.2.1.size
          exact bodyPost_ret (v := .agg #[.int .i64 3, .string (⟨#[99, 110]⟩ : ByteArray), .string (⟨#[65]⟩ : ByteArray), .slice none 0 0, .slice none 0 0]) (by simp [results, Tryz.results153, go_sem, z0, z1, z2, z3, z4]) rfl ⟨rfl, RS.far (RS.far (RS.far (RS.far (RS.far (RS.far HR9.out hege hww hne _) (Nat.le_refl _) hww hneE _) (Nat.le_refl _) hww hneE _) (Nat.le_refl _) hww hneE _) (Nat.le_refl _) hww hneE _) (Nat.le_refl _) hww hneE _⟩
end Go.Proofs.YtfdmmnajaebfeaaGreatDoor
