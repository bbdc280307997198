/- Proved here: truth's Of at Or and at Not, under contracts of its calls of itself. -/
import Derived.Test.YtfdmmnajaebfeaaGreatDoorA8
set_option linter.unusedVariables false
set_option linter.unusedSimpArgs false
set_option maxRecDepth 100000
namespace Go.Proofs.YtfdmmnajaebfeaaGreatDoor
open Go.RowKit Go.Proofs.YtfdmmnajaebfeaaGreatDoorW.PrintWords
open PTruthCovers (S82 S71 S36 S143 S113 S228 k82 k71 k36 k143 k113 k228 at_T82 at_T71 rd_T82 rd_T71)

set_option maxHeartbeats 8000000 in
theorem Of_rec1 (A1 : Option Addr) (n1 c1 : Nat) (A2 : Option Addr) (n2 c2 : Nat) (at_ val : ByteArray) (Ap : Option Addr) (np cp : Nat) (vK : Value) (Aa : Option Addr) (na ca : Nat) (n : Nat) (vs : List Value) (rs : List Int) (w : World) (hn : n ≤ 1000000) (hrs : rs.length = n) (hF : FiltersAt w vK n vs)
    (hkids : ∀ i, i < n → IntAt w 16 #[.agg #[.slice A1 n1 c1, .slice A2 n2 c2], vs.getD i .nilIface, .slice Aa na ca] (rs.getD i 0)) :
    Calls Tryz.prog 16 #[.agg #[.slice A1 n1 c1, .slice A2 n2 c2], .agg #[.int .i64 1, .string at_, .string val, .slice Ap np cp, vK], .slice Aa na ca] w fun e w' => e = .returned (.int .i64 (combF 1 rs)) ∧ Below w.heap.size w w' := by
  have HF := Lib.hid hF
  obtain ⟨_, A, c, rfl, hnc, _⟩ := hF
  have HK := Lib.hid hkids; clear hkids
  have HRS := Lib.hid hrs; clear hrs
  go_enter Tryz.func16, Tryz.ntmps16
  go_wp2
  obtain ⟨w0, hw0⟩ : ∃ w0, w0 = (w.alloc (Obj.cells #[Value.slice A1 n1 c1, Value.slice A2 n2 c2] 31)).alloc (Obj.cells #[Value.int IntKind.i64 1, Value.string at_, Value.string val, Value.slice Ap np cp, Value.slice A n c] 36) := ⟨_, rfl⟩
  rw [← hw0]
  have hB0 : Below w.heap.size w w0 := by rw [hw0]; exact below_alloc2 (below_alloc1 (Below.refl _ _) _) _
  have hS0 : CellsAt w0 w.heap.size [.slice A1 n1 c1, .slice A2 n2 c2] := by rw [hw0]; exact (CellsAt.new w #[Value.slice A1 n1 c1, Value.slice A2 n2 c2] 31).later (below_alloc1 (Below.refl _ _) _)
  have hF0 : CellsAt w0 (w.heap.size + 1) [.int .i64 1, .string at_, .string val, .slice Ap np cp, .slice A n c] := by
    rw [hw0]; have := CellsAt.new (w.alloc (Obj.cells #[Value.slice A1 n1 c1, Value.slice A2 n2 c2] 31)) #[Value.int IntKind.i64 1, Value.string at_, Value.string val, Value.slice Ap np cp, Value.slice A n c] 36; simpa using this
  have hz0 : w0.heap.size = w.heap.size + 2 := by rw [hw0]; simp
  have HB0 := Lib.hid hB0
  have HS0 := Lib.hid hS0
  have HF0 := Lib.hid hF0
  have HZ0 := Lib.hid hz0
  clear hB0 hS0 hF0 hz0 hw0
  go_loopw [7, 26] (fun v i wr => ∃ k : Nat, k ≤ n ∧ i = .int .i64 k ∧ KidsRel w0 rs k v wr) (fun _ i _ => n - (intOf i).toNat)
  case atStart => exact ⟨0, Nat.zero_le _, rfl, Below.refl _ _, own_nil _ _ _ _⟩
  case round =>
    obtain ⟨k, hk, rfl, hW, hO⟩ := hrel
    have hwW : Below w.heap.size w wr := HB0.out.trans (hW.mono HB0.out.size)
    have hS := HS0.out.later hW
    have hFF := HF0.out.later hW
    by_cases hlt : k < n
    · obtain ⟨ad, rfl, fk, fa, fv, Afp, nfp, cfp, Afq, nfq, cfq, e1, c0, c1', c2', c3, c4⟩ := (HF.out.later hwW).at_ k hlt
      have hC := (HK.out k hlt).later hwW
      rw [e1] at hC
      have hs1 := hS.2 0 _ rfl
      have hs2 := hS.2 1 _ rfl
      have hsz := hS.1
      have hfz := hFF.1
      have hts := take_snoc rs k (by rw [HRS.out]; exact hlt) 0
      have htl : (rs.take k).length = k := by simp [HRS.out]; omega
      have HC := Lib.hid hC
      have HTS := Lib.hid hts
      have HTL := Lib.hid htl
      have HW := Lib.hid hW
      have HO := Lib.hid hO
      have HwW := Lib.hid hwW
      clear hC hts htl hW hO hwW e1 hS hFF
      generalize rs.getD k 0 = r at *
      go_wp2_with fail
      refine (HC.out _ (below_alloc1 (Below.refl _ _) _)).mono ?_
      rintro e W2 ⟨rfl, hW2⟩
      have hb2 : Below wr.heap.size wr W2 := (below_alloc1 (Below.refl _ _) _).trans (hW2.mono (by simp))
      have hB2 : Below w0.heap.size w0 W2 := HW.out.trans (hb2.mono HW.out.size)
      have hO2 := pw_own_below HO.out hb2
      have HB2 := Lib.hid hB2
      have HO2 := Lib.hid hO2
      clear hb2 hB2 hO2 hW2 c0 c1' c2' c3 c4 hs1 hs2 hsz hfz
      go_wp2_with ((at_builtin; refine print_append_num (w0 := w0) w0.heap.size rfl (.tmp 30) (.tmp 35) 22 3 .i64 8 rfl Tryz.underlying22 info3 (by decide) _ (rs.take k) r rfl rfl HO2.out HB2.out HB2.out.size ?L ?_; (case L => rw [HTL.out]; omega); intro v1 w1 ho hb1 hg hat; clear hg hat; have HO1 := Lib.hid ho; have HB1 := Lib.hid hb1; clear ho hb1))
      go_roundw
      case rel => exact ⟨k + 1, by omega, by go_num, HB1.out, by rw [HTS.out]; exact HO1.out⟩
      case measure => simp [intOf]; omega
    · have hks : k = n := by omega
      have htk : rs.take k = rs := List.take_of_length_le (by rw [HRS.out]; omega)
      rw [htk] at hO
      obtain ⟨Ar, cr, rfl, hcr, hC⟩ := C_own hO
      have f0 := hFF.2 0 _ rfl
      have HC := Lib.hid hC
      have HwW := Lib.hid hwW
      clear hC hO hW hwW hS hFF htk hks
      go_wp2_with fail
      refine (truth_Or Ar cr rs _ (by rw [HRS.out]; omega) HC.out).mono ?_
      rintro e W3 ⟨rfl, hW3⟩
      have HW3 := Lib.hid (HwW.out.trans (hW3.mono HwW.out.size)); clear hW3
      go_wp2
      go_ret
      exact ⟨ret_int rfl, HW3.out⟩
set_option maxHeartbeats 8000000 in
theorem Of_rec2 (A1 : Option Addr) (n1 c1 : Nat) (A2 : Option Addr) (n2 c2 : Nat) (at_ val : ByteArray) (Ap : Option Addr) (np cp : Nat) (vK : Value) (Aa : Option Addr) (na ca : Nat) (n : Nat) (vs : List Value) (rs : List Int) (w : World) (hn : n ≤ 1000000) (hrs : rs.length = n) (hF : FiltersAt w vK n vs)
    (hkids : ∀ i, i < n → IntAt w 16 #[.agg #[.slice A1 n1 c1, .slice A2 n2 c2], vs.getD i .nilIface, .slice Aa na ca] (rs.getD i 0)) :
    Calls Tryz.prog 16 #[.agg #[.slice A1 n1 c1, .slice A2 n2 c2], .agg #[.int .i64 2, .string at_, .string val, .slice Ap np cp, vK], .slice Aa na ca] w fun e w' => e = .returned (.int .i64 (combF 2 rs)) ∧ Below w.heap.size w w' := by
  have HF := Lib.hid hF
  obtain ⟨_, A, c, rfl, hnc, _⟩ := hF
  have HK := Lib.hid hkids; clear hkids
  have HRS := Lib.hid hrs; clear hrs
  go_enter Tryz.func16, Tryz.ntmps16
  go_wp2
  obtain ⟨w0, hw0⟩ : ∃ w0, w0 = (w.alloc (Obj.cells #[Value.slice A1 n1 c1, Value.slice A2 n2 c2] 31)).alloc (Obj.cells #[Value.int IntKind.i64 2, Value.string at_, Value.string val, Value.slice Ap np cp, Value.slice A n c] 36) := ⟨_, rfl⟩
  rw [← hw0]
  have hB0 : Below w.heap.size w w0 := by rw [hw0]; exact below_alloc2 (below_alloc1 (Below.refl _ _) _) _
  have hS0 : CellsAt w0 w.heap.size [.slice A1 n1 c1, .slice A2 n2 c2] := by rw [hw0]; exact (CellsAt.new w #[Value.slice A1 n1 c1, Value.slice A2 n2 c2] 31).later (below_alloc1 (Below.refl _ _) _)
  have hF0 : CellsAt w0 (w.heap.size + 1) [.int .i64 2, .string at_, .string val, .slice Ap np cp, .slice A n c] := by
    rw [hw0]; have := CellsAt.new (w.alloc (Obj.cells #[Value.slice A1 n1 c1, Value.slice A2 n2 c2] 31)) #[Value.int IntKind.i64 2, Value.string at_, Value.string val, Value.slice Ap np cp, Value.slice A n c] 36; simpa using this
  have hz0 : w0.heap.size = w.heap.size + 2 := by rw [hw0]; simp
  have HB0 := Lib.hid hB0
  have HS0 := Lib.hid hS0
  have HF0 := Lib.hid hF0
  have HZ0 := Lib.hid hz0
  clear hB0 hS0 hF0 hz0 hw0
  go_loopw [7, 26] (fun v i wr => ∃ k : Nat, k ≤ n ∧ i = .int .i64 k ∧ KidsRel w0 rs k v wr) (fun _ i _ => n - (intOf i).toNat)
  case atStart => exact ⟨0, Nat.zero_le _, rfl, Below.refl _ _, own_nil _ _ _ _⟩
  case round =>
    obtain ⟨k, hk, rfl, hW, hO⟩ := hrel
    have hwW : Below w.heap.size w wr := HB0.out.trans (hW.mono HB0.out.size)
    have hS := HS0.out.later hW
    have hFF := HF0.out.later hW
    by_cases hlt : k < n
    · obtain ⟨ad, rfl, fk, fa, fv, Afp, nfp, cfp, Afq, nfq, cfq, e1, c0, c1', c2', c3, c4⟩ := (HF.out.later hwW).at_ k hlt
      have hC := (HK.out k hlt).later hwW
      rw [e1] at hC
      have hs1 := hS.2 0 _ rfl
      have hs2 := hS.2 1 _ rfl
      have hsz := hS.1
      have hfz := hFF.1
      have hts := take_snoc rs k (by rw [HRS.out]; exact hlt) 0
      have htl : (rs.take k).length = k := by simp [HRS.out]; omega
      have HC := Lib.hid hC
      have HTS := Lib.hid hts
      have HTL := Lib.hid htl
      have HW := Lib.hid hW
      have HO := Lib.hid hO
      have HwW := Lib.hid hwW
      clear hC hts htl hW hO hwW e1 hS hFF
      generalize rs.getD k 0 = r at *
      go_wp2_with fail
      refine (HC.out _ (below_alloc1 (Below.refl _ _) _)).mono ?_
      rintro e W2 ⟨rfl, hW2⟩
      have hb2 : Below wr.heap.size wr W2 := (below_alloc1 (Below.refl _ _) _).trans (hW2.mono (by simp))
      have hB2 : Below w0.heap.size w0 W2 := HW.out.trans (hb2.mono HW.out.size)
      have hO2 := pw_own_below HO.out hb2
      have HB2 := Lib.hid hB2
      have HO2 := Lib.hid hO2
      clear hb2 hB2 hO2 hW2 c0 c1' c2' c3 c4 hs1 hs2 hsz hfz
      go_wp2_with ((at_builtin; refine print_append_num (w0 := w0) w0.heap.size rfl (.tmp 30) (.tmp 35) 22 3 .i64 8 rfl Tryz.underlying22 info3 (by decide) _ (rs.take k) r rfl rfl HO2.out HB2.out HB2.out.size ?L ?_; (case L => rw [HTL.out]; omega); intro v1 w1 ho hb1 hg hat; clear hg hat; have HO1 := Lib.hid ho; have HB1 := Lib.hid hb1; clear ho hb1))
      go_roundw
      case rel => exact ⟨k + 1, by omega, by go_num, HB1.out, by rw [HTS.out]; exact HO1.out⟩
      case measure => simp [intOf]; omega
    · have hks : k = n := by omega
      have htk : rs.take k = rs := List.take_of_length_le (by rw [HRS.out]; omega)
      rw [htk] at hO
      obtain ⟨Ar, cr, rfl, hcr, hC⟩ := C_own hO
      have f0 := hFF.2 0 _ rfl
      have HC := Lib.hid hC
      have HwW := Lib.hid hwW
      clear hC hO hW hwW hS hFF htk hks
      rcases rs with _ | ⟨x, _ | ⟨y, zs⟩⟩
      · go_wp2
        go_ret
        exact ⟨ret_int rfl, HwW.out⟩
      · obtain ⟨adr, rfl, hx⟩ := at_Int HC.out 0 (by simp)
        simp at hx
        have hx2 : wr.cell? adr = some (.int .i64 x) := by simpa [Addr.add] using hx
        go_wp2_with fail
        refine (truth_Not _ _).mono ?_
        rintro e W3 ⟨rfl, rfl⟩
        go_wp2
        go_ret
        exact ⟨ret_int rfl, HwW.out⟩
      · have hne : ((y :: zs).length + 1 == 1) = false := by simp
        go_wp2
        go_ret
        exact ⟨ret_int rfl, HwW.out⟩
end Go.Proofs.YtfdmmnajaebfeaaGreatDoor
