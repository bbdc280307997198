/- Proved here: octet.Fold gives its text's letters small, for every text of at most 2^47 bytes. -/
import Derived.Test.YtfdmmnajaebfeaaGreatDoorProg
import Derived.Test.YtfdmmnajaebfeaaGreatDoorWWords
import Derived.Test.YtfdmmnajaebfeaaGreatDoorWMore
import Derived.Lib.Hide
import Derived.Lib.SmallJoins
import Derived.WalkSpells
set_option linter.unusedVariables false
set_option linter.unusedSimpArgs false
set_option maxRecDepth 100000
namespace Go.Proofs.YtfdmmnajaebfeaaGreatDoor
open Go.RowKit Go.Proofs.YtfdmmnajaebfeaaGreatDoorW.PrintWords

theorem ret_str {a b : ByteArray} (h : a = b) : Ending.returned (.string a) = .returned (.string b) := by rw [h]
theorem ret_int {k : IntKind} {a b : Int} (h : a = b) : Ending.returned (.int k a) = .returned (.int k b) := by rw [h]
theorem ret_bool {a b : Bool} (h : a = b) : Ending.returned (.bool a) = .returned (.bool b) := by rw [h]
/-! ### letters' size -/
def lowB (c : UInt8) : UInt8 := if 65 ≤ c.toNat ∧ c.toNat ≤ 90 then c + 32 else c
def foldL (l : List UInt8) : List UInt8 := l.map lowB
def foldB (s : ByteArray) : ByteArray := ⟨(foldL s.data.toList).toArray⟩
theorem foldB_size (s : ByteArray) : (foldB s).size = s.size := by
  show (foldL s.data.toList).toArray.size = s.data.size
  simp [foldL]
theorem lowB_int (c : UInt8) : ((lowB c).toNat : Int) = if 65 ≤ (c.toNat : Int) ∧ (c.toNat : Int) ≤ 90 then ((c.toNat : Int) + 32) % 256 else c.toNat := by
  unfold lowB
  have := c.toNat_lt
  by_cases h : 65 ≤ c.toNat ∧ c.toNat ≤ 90
  · rw [if_pos h, if_pos (by omega)]
    simp only [UInt8.toNat_add]
    simp
  · rw [if_neg h, if_neg (by omega)]

/-- the bytes, k of them turned -/
def foldTo (s : ByteArray) (k : Nat) (j : Nat) : Int := if j < k then ((lowB (s.data.toList.getD j 0)).toNat : Int) else ((s.data.toList.getD j 0).toNat : Int)
def FoldRel (w : World) (s : ByteArray) (k : Nat) (wr : World) : Prop :=
  Below w.heap.size w wr ∧ wr.heap.size = w.heap.size + 1 ∧ ∀ j, j < s.size → wr.cell? ⟨w.heap.size, j, none⟩ = some (.int .u8 (foldTo s k j)) ∧ wr.frozen? ⟨w.heap.size, j, none⟩ = false


theorem foldTo_step {s : ByteArray} {k : Nat} (hk : k < s.size) {c : UInt8} (hcc : s.data.toList.getD k 0 = c) {w wr : World} (H : FoldRel w s k wr) (h : ¬ (65 ≤ (c.toNat : Int) ∧ (c.toNat : Int) ≤ 90)) : FoldRel w s (k + 1) wr := by
  obtain ⟨a, b, hc⟩ := H
  refine ⟨a, b, fun j hj => ⟨?_, (hc j hj).2⟩⟩
  rw [(hc j hj).1]
  by_cases hjk : j = k
  · subst hjk
    simp only [foldTo, Nat.lt_irrefl, Nat.lt_succ_self, if_true, if_false, hcc, lowB_int, if_neg h]
  · have e : (j < k + 1) ↔ (j < k) := by omega
    simp only [foldTo, e]
theorem foldTo_put {s : ByteArray} {k : Nat} (hk : k < s.size) {c : UInt8} (hcc : s.data.toList.getD k 0 = c) {w wr : World} (H : FoldRel w s k wr) (h : 65 ≤ (c.toNat : Int) ∧ (c.toNat : Int) ≤ 90) :
    FoldRel w s (k + 1) (wr.setCell ⟨w.heap.size, k, none⟩ (.int .u8 ((c.toNat : Int) + 32))) := by
  obtain ⟨a, b, hc⟩ := H
  refine ⟨a.setCell (Nat.le_refl _) _, by rw [← b]; simp [World.setCell], fun j hj => ⟨?_, ?_⟩⟩
  · by_cases hjk : j = k
    · subst hjk
      rw [World.cell?_setCell_same _ _ _ (hc j hj).1]
      have e := lowB_int c
      rw [if_pos h] at e
      simp only [foldTo, Nat.lt_succ_self, if_true, hcc]
      rw [e, Int.emod_eq_of_lt (by omega) (by omega)]
    · rw [World.cell?_setCell_other _ _ _ _ (by intro h; injection h with _ h1; exact hjk h1.symm), (hc j hj).1]
      have e : (j < k + 1) ↔ (j < k) := by omega
      simp only [foldTo, e]
  · rw [World.frozen?_setCell]; exact (hc j hj).2
theorem foldTo_full {s : ByteArray} {i : Nat} (hi : i < s.size) : foldTo s s.size i = (bytesOf (foldB s)).getD i 0 := by
  have hi' : i < s.data.toList.length := by rw [data_length]; exact hi
  simp [foldTo, hi, bytesOf, foldB, foldL, List.getD_eq_getElem?_getD, List.getElem?_eq_getElem hi']
theorem strOfNums_bytesOf (s : ByteArray) : strOfNums (bytesOf s) = s := by
  unfold strOfNums bytesOf
  have e : ((fun n : Int => UInt8.ofNat n.toNat) ∘ fun b : UInt8 => (b.toNat : Int)) = id := by funext b; simp
  simp [e]
set_option maxHeartbeats 1000000 in
theorem octet_Fold (s : ByteArray) (w : World) (hs : s.size ≤ 140737488351232) :
    Calls Tryz.prog 78 #[.string s] w fun e w' => e = .returned (.string (foldB s)) ∧ Below w.heap.size w w' := by
  have kb := fun (W : World) => print_bytes (P := Tryz.prog) 9 185 5 Tryz.underlying9 Tryz.underlying185 Tryz.underlying5 s W
  go_enter Tryz.func78, Tryz.ntmps78
  go_wp2
  go_loopw [10] (fun i wr => ∃ k : Nat, k ≤ s.size ∧ i = .int .i64 k ∧ FoldRel w s k wr) (fun i _ => s.size - (intOf i).toNat)
  case atStart =>
    refine ⟨0, Nat.zero_le _, rfl, bytes_below (Below.refl _ _) (Nat.le_refl _) 5 s, Lib.bytesWorld_size _ _ _, fun j hj => ⟨?_, ?_⟩⟩
    · rw [Lib.bytesWorld_cell w 5 s j hj]; simp [foldTo]
    · simp only [World.frozen?, Lib.bytesWorld_at_new]
      have : s.size ≤ (Lib.bytesCells w 5 s).size := by simp [Lib.bytesCells]
      simp; omega
  case round =>
    obtain ⟨k, hk, rfl, H⟩ := hrel
    have HF := Lib.hid H
    obtain ⟨hb, hz, hc⟩ := H
    clear hb hz
    by_cases hlt : k < s.size
    · have h1 := (hc k hlt).1
      have h2 := (hc k hlt).2
      have hv : foldTo s k k = ((s.data.toList.getD k 0).toNat : Int) := by simp [foldTo]
      rw [hv] at h1
      have hu := (s.data.toList.getD k 0).toNat_lt
      generalize hcc : s.data.toList.getD k 0 = c at *
      have HV := Lib.hid hv; clear hv
      have HCC := Lib.hid hcc; clear hcc hc
      go_wp2
      · go_roundw
        case rel => exact ⟨k + 1, by omega, by go_num, foldTo_put hlt HCC.out HF.out ⟨by assumption, by assumption⟩⟩
        case measure => simp [intOf]; omega
      · go_roundw
        case rel => exact ⟨k + 1, by omega, by go_num, foldTo_step hlt HCC.out HF.out (by omega)⟩
        case measure => simp [intOf]; omega
      · go_roundw
        case rel => exact ⟨k + 1, by omega, by go_num, foldTo_step hlt HCC.out HF.out (by omega)⟩
        case measure => simp [intOf]; omega
    · have hks : k = s.size := by omega
      have hl : (bytesOf (foldB s)).length = s.size := by rw [bytesOf_length, foldB_size]
      have hcv := run_convert_bytes_arg (P := Tryz.prog) wr 185 5 Tryz.underlying185 Tryz.underlying5 w.heap.size 0 s.size (grownCap w s.size 0 5) (bytesOf (foldB s)) hl (fun i hi => by rw [Nat.zero_add, (hc i hi).1, hks, foldTo_full hi]) 9 Tryz.underlying9
      clear hc hks
      go_wp2
      go_ret
      exact ⟨ret_str (strOfNums_bytesOf _), HF.out.1⟩
end Go.Proofs.YtfdmmnajaebfeaaGreatDoor
