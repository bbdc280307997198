/- Proved here: the reference's reader reads one item, at one text and place. -/
import Derived.Test.YtfdmmnajaebfeaaGreatDoorB3
set_option linter.unusedVariables false
set_option linter.unusedSimpArgs false
set_option maxRecDepth 100000
namespace Go.Proofs.YtfdmmnajaebfeaaGreatDoor
open Go.RowKit Go.Proofs.YtfdmmnajaebfeaaGreatDoorW.PrintWords Go.Proofs.YtfdmmnajaebfeaaGreatDoorW.PrintLast Go.Proofs.YtfdmmnajaebfeaaGreatDoorW.PrintMore
open PTruthCovers (S82 S71 S36 S143 S113 S228 k82 k71 k36 k143 k113 k228 IsS177)


set_option maxHeartbeats 8000000 in
theorem item_D (w0 w : World) (g : Nat) (n : Int) (hR : RS w0 w g (⟨#[40, 33, 40, 122, 122, 61, 120, 41, 41]⟩ : ByteArray) 3 n w) :
    Calls Tryz.prog 153 #[.pointer (some ⟨g, 0, none⟩)] w fun e w' => e = .returned (.agg #[.int .i64 3, .string (⟨#[122, 122]⟩ : ByteArray), .string (⟨#[120]⟩ : ByteArray), .slice none 0 0, .slice none 0 0]) ∧ RS w0 w g (⟨#[40, 33, 40, 122, 122, 61, 120, 41, 41]⟩ : ByteArray) 8 n w' := by
  obtain ⟨c0, c1, c2, c3, c4, c5, hg⟩ := hR.cells
  have HR := Lib.hid hR; clear hR
  go_enter Tryz.func153, Tryz.ntmps153
  go_wp2_with fail
  have hR1 := HR.out.below (below_alloc (Below.refl _ _) (Obj.cells #[Value.int IntKind.i64 0, Value.string { data := #[] }, Value.string { data := #[] }, Value.slice none 0 0, Value.slice none 0 0] 36))
  have hE := heap_alloc_new w (Obj.cells #[Value.int IntKind.i64 0, Value.string { data := #[] }, Value.string { data := #[] }, Value.slice none 0 0, Value.slice none 0 0] 36)
  have HR1 := Lib.hid hR1
  have HE := Lib.hid hE
  clear hR1 hE c0 c1 c2 c3 c4 c5
  generalize w.alloc (Obj.cells #[Value.int IntKind.i64 0, Value.string { data := #[] }, Value.string { data := #[] }, Value.slice none 0 0, Value.slice none 0 0] 36) = W1 at *
  have ht0 : typeB ((⟨#[40, 33, 40, 122, 122, 61, 120, 41, 41]⟩ : ByteArray).extract 3 4) = true := by decide
  have ht1 : typeB ((⟨#[40, 33, 40, 122, 122, 61, 120, 41, 41]⟩ : ByteArray).extract 3 5) = true := by decide
  have ht2 : typeB ((⟨#[40, 33, 40, 122, 122, 61, 120, 41, 41]⟩ : ByteArray).extract 3 6) = false := by decide
  go_loopw [41] (fun _ wr => ∃ j : Nat, j ≤ 2 ∧ RS w0 w g (⟨#[40, 33, 40, 122, 122, 61, 120, 41, 41]⟩ : ByteArray) (3 + (j : Int)) n wr ∧ wr.heap[w.heap.size]? = some (.cells #[Value.int IntKind.i64 0, Value.string { data := #[] }, Value.string { data := #[] }, Value.slice none 0 0, Value.slice none 0 0] 36 (0, 0))) (fun _ wr => 20 - rdAt g wr)
  case atStart => exact ⟨0, by omega, HR1.out, HE.out⟩
  case round =>
    clear HR1 HE
    obtain ⟨j, hj, hR, hE⟩ := hrel
    have h3 : j = 0 ∨ j = 1 ∨ j = 2 := by omega
    have HE := Lib.hid hE; clear hE
    rcases h3 with rfl | rfl | rfl
    · obtain ⟨c0, c1, c2, c3, c4, c5, hg⟩ := hR.cells
      have HR2 := Lib.hid hR; clear hR
      simp at c1
      have hw : IntKind.i64.wrap 4 = 4 := by decide
      go_wp2_with fail
      go_region_held3 (fun w' => w'.cell? ⟨g, 1, none⟩ = some (.int .i64 3) ∧ w'.cell? ⟨g, 0, none⟩ = some (.string (⟨#[40, 33, 40, 122, 122, 61, 120, 41, 41]⟩ : ByteArray))) (go_keep) (first | (go_at_call 113; refine (r9_Type _ _ (by decide)).mono ?_; rintro e W2 ⟨rfl, hW2⟩; rw [ht0]; have hB2 : Below wr.heap.size wr W2 := ((Below.refl wr.heap.size wr).drew).trans hW2; have hR3 := HR2.out.below hB2; obtain ⟨d0, d1, d2, d3, d4, d5, hg2⟩ := hR3.cells; simp at d1; have HE2 : Hid (W2.heap[w.heap.size]? = _) := Lib.hid ((hB2.block _ (blk_lt HE.out)).trans HE.out); have HR3 := Lib.hid hR3; clear hW2 hB2 hR3 c0 c1 c2 c3 c4 c5 hg))
      go_wp2
      go_roundw
      case rel => exact ⟨1, by omega, HR3.out.set1 _, blk_far HE2.out (by simp; omega) _⟩
      case measure => (have h1 := (HR2.out).at_; have h2 := (HR3.out.set1 (3+1)).at_; simp at h1 h2; rw [h1, h2]; decide)
    · obtain ⟨c0, c1, c2, c3, c4, c5, hg⟩ := hR.cells
      have HR2 := Lib.hid hR; clear hR
      simp at c1
      have hw : IntKind.i64.wrap 5 = 5 := by decide
      go_wp2_with fail
      go_region_held3 (fun w' => w'.cell? ⟨g, 1, none⟩ = some (.int .i64 4) ∧ w'.cell? ⟨g, 0, none⟩ = some (.string (⟨#[40, 33, 40, 122, 122, 61, 120, 41, 41]⟩ : ByteArray))) (go_keep) (first | (go_at_call 113; refine (r9_Type _ _ (by decide)).mono ?_; rintro e W2 ⟨rfl, hW2⟩; rw [ht1]; have hB2 : Below wr.heap.size wr W2 := ((Below.refl wr.heap.size wr).drew).trans hW2; have hR3 := HR2.out.below hB2; obtain ⟨d0, d1, d2, d3, d4, d5, hg2⟩ := hR3.cells; simp at d1; have HE2 : Hid (W2.heap[w.heap.size]? = _) := Lib.hid ((hB2.block _ (blk_lt HE.out)).trans HE.out); have HR3 := Lib.hid hR3; clear hW2 hB2 hR3 c0 c1 c2 c3 c4 c5 hg))
      go_wp2
      go_roundw
      case rel => exact ⟨2, by omega, HR3.out.set1 _, blk_far HE2.out (by simp; omega) _⟩
      case measure => (have h1 := (HR2.out).at_; have h2 := (HR3.out.set1 (3+2)).at_; simp at h1 h2; rw [h1, h2]; decide)
    · obtain ⟨c0, c1, c2, c3, c4, c5, hg⟩ := hR.cells
      have HR2 := Lib.hid hR; clear hR
      simp at c1
      have hw : IntKind.i64.wrap 6 = 6 := by decide
      go_wp2_with fail
      go_region_held3 (fun w' => w'.cell? ⟨g, 1, none⟩ = some (.int .i64 5) ∧ w'.cell? ⟨g, 0, none⟩ = some (.string (⟨#[40, 33, 40, 122, 122, 61, 120, 41, 41]⟩ : ByteArray))) (go_keep) (first | (go_at_call 113; refine (r9_Type _ _ (by decide)).mono ?_; rintro e W2 ⟨rfl, hW2⟩; rw [ht2]; have hB2 : Below wr.heap.size wr W2 := ((Below.refl wr.heap.size wr).drew).trans hW2; have hR3 := HR2.out.below hB2; obtain ⟨d0, d1, d2, d3, d4, d5, hg2⟩ := hR3.cells; simp at d1; have HE2 : Hid (W2.heap[w.heap.size]? = _) := Lib.hid ((hB2.block _ (blk_lt HE.out)).trans HE.out); have HR3 := Lib.hid hR3; clear hW2 hB2 hR3 c0 c1 c2 c3 c4 c5 hg))
      have het : (⟨#[40, 33, 40, 122, 122, 61, 120, 41, 41]⟩ : ByteArray).extract 3 5 = (⟨#[122, 122]⟩ : ByteArray) := by decide
      go_wp2_with fail
      go_region_held3 (fun w' => w'.cell? ⟨g, 1, none⟩ = some (.int .i64 5) ∧ w'.cell? ⟨g, 0, none⟩ = some (.string (⟨#[40, 33, 40, 122, 122, 61, 120, 41, 41]⟩ : ByteArray))) (go_keep) (fail)
      go_wp2_with fail
      obtain ⟨e1, he1⟩ : ∃ e1, e1 = W2.heap.size := ⟨_, rfl⟩
      have hb5 : Below W2.heap.size W2 (W2.alloc (Obj.cells #[Value.int IntKind.i64 3, Value.string (⟨#[122, 122]⟩ : ByteArray), Value.string { data := #[] }, Value.slice none 0 0, Value.slice none 0 0] 36)).drew := (below_alloc (Below.refl _ _) _).drew
      have hR5 : RS w0 w g (⟨#[40, 33, 40, 122, 122, 61, 120, 41, 41]⟩ : ByteArray) 5 n _ := HR3.out.below hb5
      have hE5 := (hb5.block _ (blk_lt HE2.out)).trans HE2.out
      have hF5 : (W2.alloc (Obj.cells #[Value.int IntKind.i64 3, Value.string (⟨#[122, 122]⟩ : ByteArray), Value.string { data := #[] }, Value.slice none 0 0, Value.slice none 0 0] 36)).drew.heap[e1]? = some (.cells #[Value.int IntKind.i64 3, Value.string (⟨#[122, 122]⟩ : ByteArray), Value.string { data := #[] }, Value.slice none 0 0, Value.slice none 0 0] 36 (0, 0)) := by rw [he1]; exact heap_alloc_new W2 _
      have hne : e1 ≠ g := by omega
      have hege : w.heap.size ≤ e1 := by have := blk_lt HE2.out; omega
      have hneE : w.heap.size ≠ g := by omega
      rw [← he1]
      generalize (W2.alloc (Obj.cells #[Value.int IntKind.i64 3, Value.string (⟨#[122, 122]⟩ : ByteArray), Value.string { data := #[] }, Value.slice none 0 0, Value.slice none 0 0] 36)).drew = W5 at *
      have hgz : g < w.heap.size := hg
      clear hb5 d0 d1 d2 d3 d4 d5 hg2 HE2 HR3 HR2 HE hw hj he1
      have HR5 := Lib.hid hR5
      have HE5 := Lib.hid hE5
      have HF5 := Lib.hid hF5
      clear hR5 hE5 hF5
      refine (HR5.out.is 62 false 5 (isF_no (by decide) (by decide) (by decide))).mono ?_
      rintro e W6 ⟨rfl, hR, hK⟩
      have HR6 := Lib.hid hR
      have HE6 := Lib.hid (hK.blk HE5.out hneE (by simp))
      have HF6 := Lib.hid (hK.blk HF5.out hne (by simp))
      clear hR hK HR5 HE5 HF5
      go_wp2_with fail
      refine (HR6.out.is 60 false 5 (isF_no (by decide) (by decide) (by decide))).mono ?_
      rintro e W7 ⟨rfl, hR, hK⟩
      have HR7 := Lib.hid hR
      have HE7 := Lib.hid (hK.blk HE6.out hneE (by simp))
      have HF7 := Lib.hid (hK.blk HF6.out hne (by simp))
      clear hR hK HR6 HE6 HF6
      go_wp2_with fail
      refine (HR7.out.is 126 false 5 (isF_no (by decide) (by decide) (by decide))).mono ?_
      rintro e W8 ⟨rfl, hR, hK⟩
      have HR8 := Lib.hid hR
      have HE8 := Lib.hid (hK.blk HE7.out hneE (by simp))
      have HF8 := Lib.hid (hK.blk HF7.out hne (by simp))
      clear hR hK HR7 HE7 HF7
      go_wp2_with fail
      refine (HR8.out.is 61 true 6 (isF_yes (by decide) (by decide) (by decide) (by unfold wrap64; omega))).mono ?_
      rintro e W9 ⟨rfl, hR, hK⟩
      have HR9 := Lib.hid hR
      have HE9 := Lib.hid (hK.blk HE8.out hneE (by simp))
      have HF9 := Lib.hid (hK.blk HF8.out hne (by simp))
      clear hR hK HR8 HE8 HF8
      go_wp2_with fail
      go_loopw [5, 6, 7] (fun v5 v6 v7 wr => v5 = .int .i64 0 ∧ v6 = .slice none 0 0 ∧ wr.heap[w.heap.size]? = some (.cells #[Value.int IntKind.i64 0, Value.string { data := #[] }, Value.string { data := #[] }, Value.slice none 0 0, Value.slice none 0 0] 36 (0, 0)) ∧ wr.heap[e1]? = some (.cells #[Value.int IntKind.i64 3, Value.string (⟨#[122, 122]⟩ : ByteArray), Value.string { data := #[] }, Value.slice none 0 0, Value.slice none 0 0] 36 (0, 0)) ∧ ((RS w0 w g (⟨#[40, 33, 40, 122, 122, 61, 120, 41, 41]⟩ : ByteArray) 6 n wr ∧ v7 = .slice none 0 0) ∨ (RS w0 w g (⟨#[40, 33, 40, 122, 122, 61, 120, 41, 41]⟩ : ByteArray) 7 n wr ∧ ∃ B, wr.ownsRow B 5 1 v7 1 (nums .u8 [120])))) (fun _ _ _ wr => 20 - rdAt g wr)
      case atStart => exact ⟨rfl, rfl, HE9.out, HF9.out, .inl ⟨HR9.out, rfl⟩⟩
      case round =>
        clear HE9 HF9 HR9
        obtain ⟨rfl, rfl, hE, hF, ⟨hR, rfl⟩ | ⟨hR, B, hO⟩⟩ := hrel
        · have HR2 := Lib.hid hR
          have HE := Lib.hid hE
          have HF := Lib.hid hF
          clear hR hE hF
          go_wp2_with fail
          refine (HR2.out.is 41 false 6 (isF_no (by decide) (by decide) (by decide))).mono ?_
          rintro e W4 ⟨rfl, hR, hK⟩
          have HR4 := Lib.hid hR
          have HE4 := Lib.hid (hK.blk HE.out hneE (by simp))
          have HF4 := Lib.hid (hK.blk HF.out hne (by simp))
          obtain ⟨c0, c1, c2, c3, c4, c5, hg⟩ := hR.cells
          clear hR hK
          go_wp2_with fail
          go_region_held3 (fun w' => w'.cell? ⟨g, 1, none⟩ = some (.int .i64 6) ∧ w'.cell? ⟨g, 0, none⟩ = some (.string (⟨#[40, 33, 40, 122, 122, 61, 120, 41, 41]⟩ : ByteArray))) (go_keep) (fail)
          go_wp2_with fail
          have hix : (⟨#[40, 33, 40, 122, 122, 61, 120, 41, 41]⟩ : ByteArray)[6]'(by decide) = 120 := by decide
          have hix2 : (120 : UInt8).toNat = 120 := rfl
          have hw : IntKind.i64.wrap 7 = 7 := by decide
          go_region_held3 (fun w' => w'.cell? ⟨g, 1, none⟩ = some (.int .i64 6) ∧ w'.cell? ⟨g, 0, none⟩ = some (.string (⟨#[40, 33, 40, 122, 122, 61, 120, 41, 41]⟩ : ByteArray))) (go_keep) (fail)
          obtain ⟨W6, h6⟩ : ∃ W6, W6 = W4.drew.drew := ⟨_, rfl⟩
          rw [← h6]
          have hb6 : Below W4.heap.size W4 W6 := by rw [h6]; exact (Below.refl _ _).drew.drew
          have hR6 := HR4.out.below hb6
          have HE6 := Lib.hid ((hb6.block _ (blk_lt HE4.out)).trans HE4.out)
          have HF6 := Lib.hid ((hb6.block _ (blk_lt HF4.out)).trans HF4.out)
          clear h6 hb6 c0 c1 c2 c3 c4 c5 hg
          obtain ⟨c0, c1, c2, c3, c4, c5, hg⟩ := hR6.cells
          have HR6 := Lib.hid hR6
          clear hR6
          go_wp2_with ((at_builtin; refine print_append_num (w0 := W6.setCell ⟨g, 1, none⟩ (.int .i64 7)) (W6.setCell ⟨g, 1, none⟩ (.int .i64 7)).heap.size rfl (.tmp 177) (.tmp 179) 185 5 .u8 1 rfl Tryz.underlying185 info5 (by decide) _ [] 120 rfl (by rw [World.size_setCell]; rfl) (own_nil _ _ _ _) (Below.refl _ _) (Nat.le_refl _) (by decide) ?_; intro v1 w1 ho hb1 hg hat; clear hg hat; have HO1 := Lib.hid ho; have HB1 := Lib.hid hb1; clear ho hb1))
          have hb7 : Below (W6.setCell ⟨g, 1, none⟩ (.int .i64 7)).heap.size (W6.setCell ⟨g, 1, none⟩ (.int .i64 7)) w1 := HB1.out
          have hR7 := (HR6.out.set1 7).below hb7
          have hE7 := (hb7.block _ (blk_lt (blk_far HE6.out hneE _))).trans (blk_far HE6.out hneE _)
          have hF7 := (hb7.block _ (blk_lt (blk_far HF6.out hne _))).trans (blk_far HF6.out hne _)
          go_roundw
          case rel => exact ⟨rfl, rfl, hE7, hF7, .inr ⟨hR7, _, HO1.out⟩⟩
          case measure => (have h1 := (HR2.out).at_; have h2 := hR7.at_; simp at h1 h2; rw [h1, h2]; decide)
        · have HR2 := Lib.hid hR
          have HE := Lib.hid hE
          have HF := Lib.hid hF
          have HO := Lib.hid hO
          clear hR hE hF hO
          obtain ⟨A7, k7, rfl⟩ := own_slice HO.out
          go_wp2_with fail
          refine (HR2.out.is 41 true 8 (isF_yes (by decide) (by decide) (by decide) (by unfold wrap64; omega))).mono ?_
          rintro e W4 ⟨rfl, hR, hK⟩
          have HR4 := Lib.hid hR
          have HE4 := Lib.hid (hK.blk HE.out hneE (by simp))
          have HF4 := Lib.hid (hK.blk HF.out hne (by simp))
          have hO4 := hK.own HO.out (fun h => own_ne HO.out HR2.out.1.1 (by decide) h.symm) (by cases h : (Value.slice A7 1 k7).ownBlock <;> simp)
          have hcv := own_string (P := Tryz.prog) Tryz.underlying185 Tryz.underlying5 Tryz.underlying9 hO4
          have hs : strOfNums [(120 : Int)] = (⟨#[120]⟩ : ByteArray) := strOfNums_ints [120]
          rw [hs] at hcv
          clear hR hK hO4 hs
          go_wp2_with ((at_builtin; refine Kd.R_append Kd.string (w0 := W4) W4.heap.size rfl (.tmp 181) (.tmp 184) 48 9 (.string ⟨#[]⟩) 16 rfl Tryz.underlying48 info9 rfl (by decide) (by omega) (.slice none 0 0) [] (⟨#[120]⟩ : ByteArray) [.string (⟨#[120]⟩ : ByteArray)] (fun _ => True) (fun _ => False) rfl rfl rfl (fun _ hk => hk.elim) (fun _ _ => trivial) (Kd.R_nil _ _ _ _ _) (Below.refl _ _) (Nat.le_refl _) (by decide) ?_; intro v1 w1 hr hb hg hat; clear hg hat; (obtain ⟨ad, q1, hv1, hx1, hx2⟩ := vals_one hr); subst hv1; have hF9 := (hb.block _ (blk_lt HF4.out)).trans HF4.out; have hE9 := (hb.block _ (blk_lt HE4.out)).trans HE4.out; (obtain ⟨f0, f1, f2, f3, f4, ff0, ff1, ff2, ff3, ff4, fl⟩ := facts36 hF9); (obtain ⟨z0, z1, z2, z3, z4, zf0, zf1, zf2, zf3, zf4, zl⟩ := facts36 hE9); have hee : e1 ≠ w.heap.size := ne36 HF4.out HE4.out; have HR9 := Lib.hid (HR4.out.below hb); clear hF9 hE9 hr hb))
          have hww := HR.out.2.1.size
          exact bodyPost_ret (v := .agg #[.int .i64 3, .string (⟨#[122, 122]⟩ : ByteArray), .string (⟨#[120]⟩ : ByteArray), .slice none 0 0, .slice none 0 0]) (by simp [results, Tryz.results153, go_sem, z0, z1, z2, z3, z4]) rfl ⟨rfl, RS.far (RS.far (RS.far (RS.far (RS.far (RS.far HR9.out hege hww hne _) (Nat.le_refl _) hww hneE _) (Nat.le_refl _) hww hneE _) (Nat.le_refl _) hww hneE _) (Nat.le_refl _) hww hneE _) (Nat.le_refl _) hww hneE _⟩
end Go.Proofs.YtfdmmnajaebfeaaGreatDoor
