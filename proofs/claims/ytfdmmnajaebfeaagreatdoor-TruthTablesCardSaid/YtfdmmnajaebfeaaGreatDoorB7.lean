/- Proved here: the reference's Parse, of a text that its reader reads whole. -/
import Derived.Test.YtfdmmnajaebfeaaGreatDoorB6
set_option linter.unusedVariables false
set_option linter.unusedSimpArgs false
set_option maxRecDepth 100000
namespace Go.Proofs.YtfdmmnajaebfeaaGreatDoor
open Go.RowKit Go.Proofs.YtfdmmnajaebfeaaGreatDoorW.PrintWords Go.Proofs.YtfdmmnajaebfeaaGreatDoorW.PrintLast Go.Proofs.YtfdmmnajaebfeaaGreatDoorW.PrintMore
open PTruthCovers (S82 S71 S36 S143 S113 S228 k82 k71 k36 k143 k113 k228 IsS177)

/-- What Filter gives of a whole text. -/
def WholeF (T : ByteArray) (k : Int) (a b : ByteArray) (m : Int) (cnt : Nat) (xs : List Value) : Prop :=
  ∀ (w0 w : World) (g : Nat), RS w0 w g T 0 0 w → Calls Tryz.prog 112 #[.pointer (some ⟨g, 0, none⟩), .int .i64 1] w fun e w' => ∃ vK, e = .returned (.agg #[.int .i64 k, .string a, .string b, .slice none 0 0, vK]) ∧ RS w0 w g T (T.size : Int) m w' ∧ ∃ B, w.heap.size ≤ B ∧ w'.ownsRow B 36 5 vK cnt xs

set_option maxHeartbeats 4000000 in
theorem parse_at (T : ByteArray) (hT : T.size ≤ 4096) (k : Int) (a b : ByteArray) (m : Int) (cnt : Nat) (xs : List Value) (hF : WholeF T k a b m cnt xs) (w : World) :
    Calls Tryz.prog 62 #[.string T] w fun e w' => ∃ vK, e = .returned (.tuple #[.agg #[.int .i64 k, .string a, .string b, .slice none 0 0, vK], .int .i64 0]) ∧ Below w.heap.size w w' ∧ ∃ B, w.heap.size ≤ B ∧ w'.ownsRow B 36 5 vK cnt xs := by
  have HF := Lib.hid hF; clear hF
  go_enter Tryz.func62, Tryz.ntmps62
  go_wp2_with fail
  have hE := heap_alloc_new w (Obj.cells #[Value.int IntKind.i64 0, Value.string { data := #[] }, Value.string { data := #[] }, Value.slice none 0 0, Value.slice none 0 0] 36)
  have hb1 := below_alloc (Below.refl w.heap.size w) (Obj.cells #[Value.int IntKind.i64 0, Value.string { data := #[] }, Value.string { data := #[] }, Value.slice none 0 0, Value.slice none 0 0] 36)
  obtain ⟨W1, hW1⟩ : ∃ W1, W1 = w.alloc (Obj.cells #[Value.int IntKind.i64 0, Value.string { data := #[] }, Value.string { data := #[] }, Value.slice none 0 0, Value.slice none 0 0] 36) := ⟨_, rfl⟩
  have hz1 : W1.heap.size = w.heap.size + 1 := by rw [hW1]; simp
  rw [← hW1] at hE hb1 ⊢
  have hG := heap_alloc_new W1 (Obj.cells #[Value.string T, Value.int IntKind.i64 0, Value.int IntKind.i64 0, Value.int IntKind.i64 0] 177)
  have hb2 := below_alloc hb1 (Obj.cells #[Value.string T, Value.int IntKind.i64 0, Value.int IntKind.i64 0, Value.int IntKind.i64 0] 177)
  have hE2 := (Below.heap_alloc W1 (Obj.cells #[Value.string T, Value.int IntKind.i64 0, Value.int IntKind.i64 0, Value.int IntKind.i64 0] 177) w.heap.size (by omega)).trans hE
  have hz2 : (W1.alloc (Obj.cells #[Value.string T, Value.int IntKind.i64 0, Value.int IntKind.i64 0, Value.int IntKind.i64 0] 177)).heap.size = w.heap.size + 2 := by simp [hz1]
  rw [hz1] at hG
  generalize W1.alloc (Obj.cells #[Value.string T, Value.int IntKind.i64 0, Value.int IntKind.i64 0, Value.int IntKind.i64 0] 177) = W2 at *
  have hR : RS w W2 (w.heap.size + 1) T 0 0 W2 := ⟨⟨hG, by omega⟩, hb2, KeepBut.refl _ _ _⟩
  refine (HF.out w W2 (w.heap.size + 1) hR).mono ?_
  rintro e W3 ⟨vK, rfl, hR3, B, hB, hO⟩
  obtain ⟨A, c, rfl⟩ := own_slice hO
  have hE3 := hR3.2.2.blk hE2 (by omega) (by simp)
  obtain ⟨c0, c1, c2, c3, c4, c5, hg⟩ := hR3.cells
  obtain ⟨z0, z1, z2, z3, z4, zf0, zf1, zf2, zf3, zf4, zl⟩ := facts36 hE3
  have hBw : w.heap.size < B := by omega
  have HR3 := Lib.hid hR3
  have HO := Lib.hid hO
  have HB := Lib.hid hBw
  clear hR3 hO hE hb1 hb2 hE2 hG hW1 hz1 hz2 hR hB hBw hE3
  go_wp2
  have hnb : some w.heap.size ≠ (Value.slice A cnt c).ownBlock := fun h => by have := own_base HO.out _ h.symm; have := HB.out; omega
  have hb3 := (((((HR3.out.2.1.setCell (p := ⟨w.heap.size, 0, none⟩) (Nat.le_refl _) (Value.int .i64 k)).setCell (p := ⟨w.heap.size, 1, none⟩) (Nat.le_refl _) (Value.string a)).setCell (p := ⟨w.heap.size, 2, none⟩) (Nat.le_refl _) (Value.string b)).setCell (p := ⟨w.heap.size, 3, none⟩) (Nat.le_refl _) (Value.slice none 0 0)).setCell (p := ⟨w.heap.size, 4, none⟩) (Nat.le_refl _) (Value.slice A cnt c))
  exact bodyPost_ret (v := .tuple #[.agg #[.int .i64 k, .string a, .string b, .slice none 0 0, .slice A cnt c], .int .i64 0]) (by simp [results, Tryz.results62, go_sem, z0, z1, z2, z3, z4, zl]) rfl ⟨_, rfl, below_alloc hb3 _, B, Nat.le_of_lt HB.out, (own_setCell (own_setCell (own_setCell (own_setCell (own_setCell HO.out hnb _) hnb _) hnb _) hnb _) hnb _).alloc _⟩
end Go.Proofs.YtfdmmnajaebfeaaGreatDoor
