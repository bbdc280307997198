/- Proved here: the reference's reader reads a negation, if its inner filter is read. -/
import Derived.Test.YtfdmmnajaebfeaaGreatDoorB4
import Derived.Deep.RegionLaw
import Derived.IntWalk
import Derived.Deep.QuietTactic
import Derived.BigQuiet
set_option linter.unusedVariables false
set_option linter.unusedSimpArgs false
set_option maxRecDepth 100000
namespace Go.Proofs.YtfdmmnajaebfeaaGreatDoor
open Go.RowKit Go.Proofs.YtfdmmnajaebfeaaGreatDoorW.PrintWords Go.Proofs.YtfdmmnajaebfeaaGreatDoorW.PrintLast Go.Proofs.YtfdmmnajaebfeaaGreatDoorW.PrintMore
open PTruthCovers (S82 S71 S36 S143 S113 S228 k82 k71 k36 k143 k113 k228 IsS177)

theorem info36 : (Tryz.prog.info? 36).map (fun i => (i.zero, i.size, i.bytes)) = some (some (.agg #[.int .i64 0, .string ⟨#[]⟩, .string ⟨#[]⟩, .slice none 0 0, .slice none 0 0]), 5, 88) := by kernel_rfl
/-- A leaf's value. -/
def leafV (k : Int) (a b : ByteArray) : Value := .agg #[.int .i64 k, .string a, .string b, .slice none 0 0, .slice none 0 0]
def leafC (k : Int) (a b : ByteArray) : List Value := [.int .i64 k, .string a, .string b, .slice none 0 0, .slice none 0 0]

set_option maxHeartbeats 1500000 in
theorem filter_not (w0 : World) (g : Nat) (t : ByteArray) (p p1 p2 q q1 n n1 m d k : Int) (a b : ByteArray) (hn : 0 ≤ n ∧ n < 1000) (hn1 : n1 = n + 1) (hd : 0 ≤ d ∧ d ≤ 63)
    (h40 : PTruthCovers.castellanref10_Reader_is.f t p n 0 40 = some (true, t, p1, n, 0))
    (h38 : PTruthCovers.castellanref10_Reader_is.f t p1 n1 0 38 = some (false, t, p1, n1, 0))
    (h124 : PTruthCovers.castellanref10_Reader_is.f t p1 n1 0 124 = some (false, t, p1, n1, 0))
    (h33 : PTruthCovers.castellanref10_Reader_is.f t p1 n1 0 33 = some (true, t, p2, n1, 0))
    (hI : FiltAt w0 g t p2 q n1 m (d + 1) (.agg #[.int .i64 k, .string a, .string b, .slice none 0 0, .slice none 0 0]))
    (h41 : PTruthCovers.castellanref10_Reader_is.f t q m 0 41 = some (true, t, q1, m, 0))
    (w : World) (hR : RS w0 w g t p n w) :
    Calls Tryz.prog 112 #[.pointer (some ⟨g, 0, none⟩), .int .i64 d] w fun e w' => ∃ vK, e = .returned (.agg #[.int .i64 2, .string ⟨#[]⟩, .string ⟨#[]⟩, .slice none 0 0, vK]) ∧ RS w0 w g t q1 m w' ∧ ∃ B, w.heap.size ≤ B ∧ w'.ownsRow B 36 5 vK 1 [.int .i64 k, .string a, .string b, .slice none 0 0, .slice none 0 0] := by
  have hgz := hR.cells.2.2.2.2.2.2
  have hwz := hR.2.1.size
  have HR := Lib.hid hR
  have H40 := Lib.hid h40
  have H38 := Lib.hid h38
  have H124 := Lib.hid h124
  have H33 := Lib.hid h33
  have H41 := Lib.hid h41
  have HI := Lib.hid hI
  clear hR h40 h38 h124 h33 h41 hI
  go_enter Tryz.func112, Tryz.ntmps112
  go_wp2_with fail
  have hR1 := HR.out.below (below_alloc (Below.refl _ _) (Obj.cells #[Value.int IntKind.i64 0, Value.string { data := #[] }, Value.string { data := #[] }, Value.slice none 0 0, Value.slice none 0 0] 36))
  have hE := heap_alloc_new w (Obj.cells #[Value.int IntKind.i64 0, Value.string { data := #[] }, Value.string { data := #[] }, Value.slice none 0 0, Value.slice none 0 0] 36)
  have hneE : w.heap.size ≠ g := by omega
  have HE := Lib.hid hE; clear hE
  refine (hR1.is 40 true p1 H40.out).mono ?_
  clear hR1
  rintro e W1 ⟨rfl, hR1, hK⟩
  have HE1 := Lib.hid (hK.blk HE.out hneE (by simp))
  obtain ⟨c0, c1, c2, c3, c4, c5, hg⟩ := hR1.cells
  have HR1 := Lib.hid hR1
  clear hR1 hK HE
  go_wp2_with fail
  have hR2 : RS w0 w g t p1 n1 (W1.setCell ⟨g, 2, none⟩ (.int .i64 (n + 1))) := by rw [hn1]; exact HR1.out.set2 (n + 1)
  have hE2 := blk_far HE1.out hneE (.int .i64 (n + 1)) (p := ⟨g, 2, none⟩)
  generalize W1.setCell ⟨g, 2, none⟩ (.int .i64 (n + 1)) = W2 at *
  have HR2 := Lib.hid hR2
  have HE2 := Lib.hid hE2
  clear hR2 hE2 c0 c1 c2 c3 c4 c5 hg HE1 HR1
  have HN1 := Lib.hid hn1
  clear hn1
  go_loopw [5] (fun v wr => ∃ i : Nat, i ≤ 2 ∧ v = .int .i64 i ∧ RS w0 w g t p1 n1 wr ∧ wr.heap[w.heap.size]? = some (.cells #[Value.int IntKind.i64 0, Value.string { data := #[] }, Value.string { data := #[] }, Value.slice none 0 0, Value.slice none 0 0] 36 (0, 0))) (fun v _ => 3 - (intOf v).toNat)
  case atStart => exact ⟨0, by omega, rfl, HR2.out, HE2.out⟩
  case round =>
    clear HR2 HE2
    obtain ⟨i, hi, rfl, hR, hE⟩ := hrel
    have hi4 : i = 0 ∨ i = 1 ∨ i = 2 := by omega
    have HR := Lib.hid hR
    have HE := Lib.hid hE
    clear hR hE
    have hx0 : (⟨#[38, 124, 33]⟩ : ByteArray)[0]'(by decide) = 38 := by decide
    have hx1 : (⟨#[38, 124, 33]⟩ : ByteArray)[1]'(by decide) = 124 := by decide
    have hx2 : (⟨#[38, 124, 33]⟩ : ByteArray)[2]'(by decide) = 33 := by decide
    have hy0 : (38 : UInt8).toNat = 38 := rfl
    have hy1 : (124 : UInt8).toNat = 124 := rfl
    have hy2 : (33 : UInt8).toNat = 33 := rfl
    rcases hi4 with rfl | rfl | rfl
    · go_wp2_with fail
      refine (HR.out.is 38 false p1 H38.out).mono ?_
      rintro e W4 ⟨rfl, hR, hK⟩
      have HE4 := Lib.hid (hK.blk HE.out hneE (by simp))
      have HR4 := Lib.hid hR
      clear hR hK
      go_wp2
      go_roundw
      case rel => exact ⟨1, by omega, by go_num, HR4.out, HE4.out⟩
      case measure => simp [intOf]
    · go_wp2_with fail
      refine (HR.out.is 124 false p1 H124.out).mono ?_
      rintro e W4 ⟨rfl, hR, hK⟩
      have HE4 := Lib.hid (hK.blk HE.out hneE (by simp))
      have HR4 := Lib.hid hR
      clear hR hK
      go_wp2
      go_roundw
      case rel => exact ⟨2, by omega, by go_num, HR4.out, HE4.out⟩
      case measure => simp [intOf]
    · go_wp2_with fail
      refine (HR.out.is 33 true p2 H33.out).mono ?_
      rintro e W4 ⟨rfl, hR, hK⟩
      have HE4 := Lib.hid (hK.blk HE.out hneE (by simp))
      have HR4 := Lib.hid hR
      clear hR hK
      go_wp2_with fail
      have hR5 := HR4.out.below (below_alloc (Below.refl _ _) (Obj.cells #[Value.int IntKind.i64 2, Value.string { data := #[] }, Value.string { data := #[] }, Value.slice none 0 0, Value.slice none 0 0] 36))
      have hE5 := (below_alloc (Below.refl _ W4) (Obj.cells #[Value.int IntKind.i64 2, Value.string { data := #[] }, Value.string { data := #[] }, Value.slice none 0 0, Value.slice none 0 0] 36)).block _ (blk_lt HE4.out) |>.trans HE4.out
      have hF5 := heap_alloc_new W4 (Obj.cells #[Value.int IntKind.i64 2, Value.string { data := #[] }, Value.string { data := #[] }, Value.slice none 0 0, Value.slice none 0 0] 36)
      obtain ⟨e1, he1⟩ : ∃ e1, e1 = W4.heap.size := ⟨_, rfl⟩
      have hne : e1 ≠ g := by have := HR4.out.cells.2.2.2.2.2.2; omega
      have hege : w.heap.size ≤ e1 := by have := blk_lt HE4.out; omega
      have hew : e1 ≠ w.heap.size := by have := blk_lt HE4.out; omega
      rw [← he1] at hF5 ⊢
      generalize W4.alloc (Obj.cells #[Value.int IntKind.i64 2, Value.string { data := #[] }, Value.string { data := #[] }, Value.slice none 0 0, Value.slice none 0 0] 36) = W5 at *
      obtain ⟨f0, f1, f2, f3, f4, ff0, ff1, ff2, ff3, ff4, fl⟩ := facts36 hF5
      have HR5 := Lib.hid hR5
      have HE5 := Lib.hid hE5
      have HF5 := Lib.hid hF5
      clear hR5 hE5 hF5 HE4 HR4 HE HR he1
      have hone : ∀ u ∈ ([.int .i64 k, .string a, .string b, .slice none 0 0, .slice none 0 0] : List Value), u.oneCell' = true := by intro u hu; simp at hu; rcases hu with rfl | rfl | rfl | rfl <;> rfl
      have hwd : IntKind.i64.wrap (d + 1) = d + 1 := IntWalk.i64_in _ (by omega)
      go_region_law (first | (have hguard := HF6; refine step_append_cells (w0 := W6) (W := W6) W6.heap.size (by rfl) (.tmp 44) (.tmp 49) 34 36 (.agg #[.int .i64 0, .string ⟨#[]⟩, .string ⟨#[]⟩, .slice none 0 0, .slice none 0 0]) 5 88 (by rfl) Tryz.underlying34 info36 rfl (by decide) (by decide) (.slice none 0 0) 0 [] [.int .i64 k, .string a, .string b, .slice none 0 0, .slice none 0 0] (by rfl) (by rfl) rfl hone (own_nil _ _ _ _) (Below.refl _ _) (Nat.le_refl _) (by decide) ?_; intro v1 w1 ho hb hg hat; clear hg hat; (obtain ⟨Ak, ck, hvk⟩ := own_slice ho); subst hvk; have hF7 := (hb.block _ (blk_lt HF6.out)).trans HF6.out; have hE7 := (hb.block _ (blk_lt HE6.out)).trans HE6.out; have hR7 := HR6.out.below hb; (obtain ⟨k0, k1, k2, k3, k4, kk0, kk1, kk2, kk3, kk4, kl⟩ := facts36 hF7); have HR7 := Lib.hid hR7; have HE7 := Lib.hid hE7; have HF7 := Lib.hid hF7; have HO7 := Lib.hid ho; clear hR7 hE7 hF7 ho hb HF6 HE6 HR6 hguard g0 g1 g2 g3 g4 gg0 gg1 gg2 gg3 gg4) | (have hguard := HF5; go_simp; go_at_call 112; refine (HI.out _ (RS.refl_ (HR5.out.below ((Below.refl _ _).drew)))).mono ?_; rintro e W6 ⟨rfl, hR6⟩; have hF6 := hR6.2.2.blk HF5.out hne (by simp); have hE6 := hR6.2.2.blk HE5.out hneE (by simp); (obtain ⟨g0, g1, g2, g3, g4, gg0, gg1, gg2, gg3, gg4, gl⟩ := facts36 hF6); have HR6 := Lib.hid (RS.trans_ (HR5.out.below ((Below.refl _ _).drew)) hR6); have HE6 := Lib.hid hE6; have HF6 := Lib.hid hF6; clear hR6 hE6 hF6 HF5 hguard HE5 HR5 f0 f1 f2 f3 f4 ff0 ff1 ff2 ff3 ff4 fl))
      all_goals
        go_wp2_with fail
        obtain ⟨w8, hw8⟩ : ∃ w8, w8 = w1.setCell ⟨e1, 4, none⟩ (Value.slice Ak 1 ck) := ⟨_, rfl⟩
        rw [← hw8]
        have hR8 : RS w0 w g t q m w8 := by rw [hw8]; exact RS.far HR7.out hege hwz hne _
        have hE8 : w8.heap[w.heap.size]? = some (.cells #[Value.int IntKind.i64 0, Value.string { data := #[] }, Value.string { data := #[] }, Value.slice none 0 0, Value.slice none 0 0] 36 (0, 0)) := by rw [hw8]; exact blk_far HE7.out (Ne.symm hew) _
        have hF8 : w8.heap[e1]? = some (.cells #[Value.int IntKind.i64 2, Value.string { data := #[] }, Value.string { data := #[] }, Value.slice none 0 0, Value.slice Ak 1 ck] 36 (0, 0)) := by
          rw [hw8]
          have h := blk_set HF7.out 4 (Value.slice Ak 1 ck)
          simpa using h
        have hO8 : w8.ownsRow W6.heap.size 36 5 (Value.slice Ak 1 ck) 1 [.int .i64 k, .string a, .string b, .slice none 0 0, .slice none 0 0] := by
          rw [hw8]
          exact own_setCell HO7.out (p := ⟨e1, 4, none⟩) (fun h => by have := own_base HO7.out e1 h.symm; omega) _
        obtain ⟨B, hB⟩ : ∃ B, B = W6.heap.size := ⟨_, rfl⟩
        rw [← hB] at hO8
        have hBw : w.heap.size < B := by omega
        have HR8 := Lib.hid hR8
        have HE8 := Lib.hid hE8
        have HF8 := Lib.hid hF8
        have HO8 := Lib.hid hO8
        clear hR8 hE8 hF8 hO8 hw8 hB gl HR7 HE7 HF7 HO7 k0 k1 k2 k3 k4 kk0 kk1 kk2 kk3 kk4 kl
        go_loopw [54] (fun _ wr => wr = w8) (fun _ _ => 0)
        case atStart => rfl
        case round =>
          obtain rfl := hrel
          have hd2 : decide ((2 : Int) < 2) = false := by decide
          obtain ⟨c0, c1, c2, c3, c4, c5, hg⟩ := HR8.out.cells
          go_wp2_with fail
          go_quiet (fail)
          go_wp2_with fail
          refine ((HR8.out.below (pw_below_drewN (Below.refl _ _) _)).is 41 true q1 H41.out).mono ?_
          rintro e W9 ⟨rfl, hR9, hK⟩
          have hF9 := hK.blk HF8.out hne (by simp)
          have hE9 := hK.blk HE8.out hneE (by simp)
          have hO9 := hK.own HO8.out (fun h => own_ne HO8.out HR8.out.1.1 (by decide) h.symm) (by cases h : (Value.slice Ak 1 ck).ownBlock <;> simp)
          obtain ⟨f0, f1, f2, f3, f4, ff0, ff1, ff2, ff3, ff4, fl⟩ := facts36 hF9
          obtain ⟨z0, z1, z2, z3, z4, zf0, zf1, zf2, zf3, zf4, zl⟩ := facts36 hE9
          have HR9 := Lib.hid hR9
          have HO9 := Lib.hid hO9
          have HB := Lib.hid hBw
          clear c0 c1 c2 c3 c4 c5 hg hR9 hO9 hF9 hE9 hK hBw
          go_wp2
          have hnb : some w.heap.size ≠ (Value.slice Ak 1 ck).ownBlock := fun h => by have := own_base HO9.out _ h.symm; have := HB.out; omega
          exact bodyPost_ret (v := .agg #[.int .i64 2, .string ⟨#[]⟩, .string ⟨#[]⟩, .slice none 0 0, .slice Ak 1 ck]) (by simp [results, Tryz.results112, go_sem, z0, z1, z2, z3, z4]) rfl ⟨_, rfl, RS.far (RS.far (RS.far (RS.far (RS.far HR9.out (Nat.le_refl _) hwz hneE _) (Nat.le_refl _) hwz hneE _) (Nat.le_refl _) hwz hneE _) (Nat.le_refl _) hwz hneE _) (Nat.le_refl _) hwz hneE _, B, Nat.le_of_lt HB.out, own_setCell (own_setCell (own_setCell (own_setCell (own_setCell HO9.out hnb _) hnb _) hnb _) hnb _) hnb _⟩
end Go.Proofs.YtfdmmnajaebfeaaGreatDoor
