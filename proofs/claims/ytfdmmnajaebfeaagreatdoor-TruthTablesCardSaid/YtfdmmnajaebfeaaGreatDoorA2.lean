/- Proved here: octet.Prep gives the prepared text, for every text of at most 2^47 bytes. -/
import Derived.Test.YtfdmmnajaebfeaaGreatDoorA1
set_option linter.unusedVariables false
set_option linter.unusedSimpArgs false
set_option maxRecDepth 100000
namespace Go.Proofs.YtfdmmnajaebfeaaGreatDoor
open Go.RowKit Go.Proofs.YtfdmmnajaebfeaaGreatDoorW.PrintWords

theorem info3 : (Tryz.prog.info? 3).map (fun i => (i.zero, i.size, i.bytes)) = some (some (.int .i64 0), 1, 8) := by kernel_rfl
theorem info5 : (Tryz.prog.info? 5).map (fun i => (i.zero, i.size, i.bytes)) = some (some (.int .u8 0), 1, 1) := by kernel_rfl
theorem info9 : (Tryz.prog.info? 9).map (fun i => (i.zero, i.size, i.bytes)) = some (some (.string ⟨#[]⟩), 1, 16) := by kernel_rfl

/-- bytes as numbers -/
def ints (l : List UInt8) : List Int := l.map fun b => (b.toNat : Int)
theorem ints_length (l : List UInt8) : (ints l).length = l.length := by simp [ints]
theorem ints_append (l m : List UInt8) : ints (l ++ m) = ints l ++ ints m := by simp [ints]
theorem strOfNums_ints (l : List UInt8) : strOfNums (ints l) = ⟨l.toArray⟩ := by
  have h := strOfNums_bytesOf ⟨l.toArray⟩
  simpa [bytesOf, ints] using h
theorem rd_ints (l : List UInt8) (i : Nat) (h : i < l.length) : rd (ints l) i = ((l.getD i 0).toNat : Int) := by
  simp [rd, ints, List.getD_eq_getElem?_getD, List.getElem?_eq_getElem h]

def prepStep (b : List UInt8) (c : UInt8) : List UInt8 := if c = 32 ∧ (b = [] ∨ b.getLast? = some 32) then b else b ++ [c]
def prepTrim (b : List UInt8) : List UInt8 := if b.getLast? = some 32 then b.dropLast else b
def prepL (l : List UInt8) : List UInt8 := prepTrim ((foldL l).foldl prepStep [])
def prepB (s : ByteArray) : ByteArray := ⟨(prepL s.data.toList).toArray⟩
theorem prepStep_len (b : List UInt8) (c : UInt8) : (prepStep b c).length ≤ b.length + 1 := by unfold prepStep; split <;> simp
theorem prepGo_len (l b : List UInt8) : (l.foldl prepStep b).length ≤ b.length + l.length := by
  induction l generalizing b with
  | nil => simp
  | cons c l ih => have h1 := ih (prepStep b c); have h2 := prepStep_len b c; simp only [List.foldl_cons, List.length_cons]; omega
theorem foldl_take_succ {α β : Type} (f : β → α → β) (l : List α) (b : β) (k : Nat) (h : k < l.length) (d : α) : (l.take (k + 1)).foldl f b = f ((l.take k).foldl f b) (l.getD k d) := by
  rw [List.take_succ_eq_append_getElem h, List.foldl_append]; simp [List.getD_eq_getElem?_getD, List.getElem?_eq_getElem h]
theorem getLast_getD (b : List UInt8) (h : b ≠ []) : b.getLast? = some (b.getD (b.length - 1) 0) := by
  have hp : 0 < b.length := List.length_pos_iff.2 h
  rw [List.getLast?_eq_getElem?, List.getD_eq_getElem?_getD, List.getElem?_eq_getElem (by omega)]; rfl

def PrepRel (w W : World) (t : ByteArray) (k : Nat) (v : Value) (wr : World) : Prop :=
  Below (W.heap.size + 1) (Lib.bytesWorld W 5 t) wr ∧ wr.ownsRow (W.heap.size + 1) 5 1 v ((t.data.toList.take k).foldl prepStep []).length (nums .u8 (ints ((t.data.toList.take k).foldl prepStep [])))

theorem own_cap {w : World} {base : Nat} {e : TypeId} {size n m cap : Nat} {A : Option Addr} {xs : List Value} (h : w.ownsRow base e size (.slice A m cap) n xs) : m ≤ cap := by
  rcases h.2 with ⟨h1, _⟩ | ⟨g, c, cur, h1, _, _, hnc, _⟩
  · injection h1 with _ h2 h3; omega
  · injection h1 with _ h2 h3; omega
theorem u8_ne32 {c : UInt8} (h : ¬ c = 32) : ((c.toNat : Int) == 32) = false := by
  simp only [beq_eq_false_iff_ne, ne_eq]; intro h1; apply h; apply UInt8.toNat_inj.1; show c.toNat = 32; omega
theorem ints_snoc (b : List UInt8) (c : UInt8) : ints b ++ [(c.toNat : Int)] = ints (b ++ [c]) := by simp [ints]
theorem ints_32 (b : List UInt8) : ints b ++ [(32 : Int)] = ints (b ++ [32]) := by simp [ints]
set_option maxHeartbeats 2000000 in
theorem octet_Prep (s : ByteArray) (w : World) (hs : s.size ≤ 140737488351232) :
    Calls Tryz.prog 69 #[.string s] w fun e w' => e = .returned (.string (prepB s)) ∧ Below w.heap.size w w' := by
  have kb := fun (W : World) => print_bytes (P := Tryz.prog) 9 185 5 Tryz.underlying9 Tryz.underlying185 Tryz.underlying5 (foldB s) W
  go_enter Tryz.func69, Tryz.ntmps69
  go_wp2_with (go_at_call 78; refine (octet_Fold s _ hs).mono ?_; rintro e W ⟨rfl, hW⟩)
  have hsz := foldB_size s
  have HSZ := Lib.hid hsz; clear hsz
  have HW := Lib.hid hW; clear hW
  go_loopw [3, 10] (fun v i wr => ∃ k : Nat, k ≤ (foldB s).size ∧ i = .int .i64 k ∧ PrepRel w W (foldB s) k v wr) (fun _ i _ => (foldB s).size - (intOf i).toNat)
  case atStart => exact ⟨0, Nat.zero_le _, rfl, Below.refl _ _, own_nil _ _ _ _⟩
  case round =>
    obtain ⟨k, hk, rfl, hB, hO⟩ := hrel
    generalize hb : (((foldB s).data.toList.take k).foldl prepStep []) = b at hO
    have hbl : b.length ≤ k := by rw [← hb]; have := prepGo_len ((foldB s).data.toList.take k) []; simp only [List.length_nil, List.length_take] at this; omega
    have hkl : k ≤ 140737488351232 := by rw [HSZ.out] at hk; omega
    have Hb := Lib.hid hb; clear hb
    by_cases hlt : k < (foldB s).size
    · have hcell := (hB.cell (p := ⟨W.heap.size, k, none⟩) (by simp)).trans (Lib.bytesWorld_cell W 5 (foldB s) k hlt)
      have hstep := foldl_take_succ prepStep (foldB s).data.toList [] k (by rw [data_length]; exact hlt) 0
      rw [Hb.out] at hstep
      have hu := ((foldB s).data.toList.getD k 0).toNat_lt
      generalize ((foldB s).data.toList.getD k 0) = c at *
      have HS := Lib.hid hstep; clear hstep
      have HBB := Lib.hid hB; clear hB
      have HO := Lib.hid hO; clear hO
      by_cases hc : c = 32
      · by_cases hn : b = []
        · subst hn hc
          obtain ⟨A, cp, rfl⟩ := own_slice HO.out
          go_wp2
          go_roundw
          case rel => exact ⟨k + 1, by omega, by go_num, HBB.out, by rw [HS.out]; simpa [prepStep] using HO.out⟩
          case measure => simp [intOf]; omega
        · have hp : 0 < b.length := List.length_pos_iff.2 hn
          obtain ⟨g, cap, rfl, hgb, hgl⟩ := HO.out.form (by simpa using hp)
          have hlast := (own_at HO.out ((b.length : Int) - 1) (by omega) (by omega)).1
          rw [show ((b.length : Int) - 1).toNat = b.length - 1 from by omega, show ((b.length : Int) - 1) = ((b.length - 1 : Nat) : Int) from by omega, rd_ints _ _ (by omega)] at hlast
          have hgl2 := getLast_getD b hn
          generalize b.getD (b.length - 1) 0 = d at *
          have HG := Lib.hid hgl2; clear hgl2
          have hnb : (b.length == 0) = false := by simp; exact hn
          have hnb2 : ((b.length : Int) == 0) = false := by simp; exact hn
          have HN := Lib.hid hn; clear hn
          by_cases hd : d = 32
          · subst hd hc
            go_wp2
            go_roundw
            case rel => exact ⟨k + 1, by omega, by go_num, HBB.out, by rw [HS.out]; simpa [prepStep, HG.out] using HO.out⟩
            case measure => simp [intOf]; omega
          · have hd2 : ((d.toNat : Int) == 32) = false := u8_ne32 hd
            subst hc
            go_wp2_with ((at_builtin; refine print_append_num (w0 := Lib.bytesWorld W 5 (foldB s)) (W.heap.size + 1) rfl (.tmp 30) (.tmp 32) 185 5 .u8 1 rfl Tryz.underlying185 info5 (by decide) _ (ints b) 32 rfl rfl ?O HBB.out ?S ?L ?_; (case O => rw [ints_length]; exact HO.out); (case S => have := HBB.out.size; rw [Lib.bytesWorld_size] at this; exact this); (case L => rw [ints_length]; omega); intro v1 w1 ho hb1 hg hat; clear hg hat; have HO1 := Lib.hid ho; have HB1 := Lib.hid hb1; clear ho hb1))
            go_roundw
            case rel => exact ⟨k + 1, by omega, by go_num, HB1.out, by rw [HS.out]; have h := HO1.out; rw [ints_32, ints_length] at h; simpa [prepStep, HG.out, hd, HN.out] using h⟩
            case measure => simp [intOf]; omega
      · have hc2 : ((c.toNat : Int) == 32) = false := u8_ne32 hc
        go_wp2_with ((at_builtin; refine print_append_num (w0 := Lib.bytesWorld W 5 (foldB s)) (W.heap.size + 1) rfl (.tmp 30) (.tmp 32) 185 5 .u8 1 rfl Tryz.underlying185 info5 (by decide) _ (ints b) (c.toNat : Int) rfl rfl ?O HBB.out ?S ?L ?_; (case O => rw [ints_length]; exact HO.out); (case S => have := HBB.out.size; rw [Lib.bytesWorld_size] at this; exact this); (case L => rw [ints_length]; omega); intro v1 w1 ho hb1 hg hat; clear hg hat; have HO1 := Lib.hid ho; have HB1 := Lib.hid hb1; clear ho hb1))
        go_roundw
        case rel => exact ⟨k + 1, by omega, by go_num, HB1.out, by rw [HS.out]; have h := HO1.out; rw [ints_snoc, ints_length] at h; simpa [prepStep, hc] using h⟩
        case measure => simp [intOf]; omega
    · have hks : k = (foldB s).size := by omega
      have hfull : prepTrim b = prepL s.data.toList := by
        unfold prepL; rw [← Hb.out, hks, List.take_of_length_le (by rw [data_length]; exact Nat.le_refl _)]; rfl
      have HFULL := Lib.hid hfull; clear hfull hks
      have hB2 : Below w.heap.size w wr := by
        have h1 := HW.out
        have h2 := bytes_below (Below.refl _ W) (Nat.le_refl _) 5 (foldB s)
        exact h1.trans ((h2.trans (hB.mono (by omega))).mono h1.size)
      have HB2 := Lib.hid hB2; clear hB2 hB
      have HO := Lib.hid hO; clear hO
      by_cases hn : b = []
      · subst hn
        obtain ⟨A, cp, rfl⟩ := own_slice HO.out
        have hcv := own_string (P := Tryz.prog) Tryz.underlying185 Tryz.underlying5 Tryz.underlying9 HO.out
        rw [strOfNums_ints] at hcv
        simp only [List.length_nil] at hcv
        go_wp2
        go_ret
        exact ⟨ret_str (by show _ = prepB s; unfold prepB; rw [← HFULL.out]; rfl), HB2.out⟩
      · have hp : 0 < b.length := List.length_pos_iff.2 hn
        obtain ⟨g, cap, rfl, hgb, hgl⟩ := HO.out.form (by simpa using hp)
        have hcap := own_cap HO.out
        have hcv := own_string (P := Tryz.prog) Tryz.underlying185 Tryz.underlying5 Tryz.underlying9 HO.out
        rw [strOfNums_ints] at hcv
        have hcv2 := run_convert_bytes_arg (P := Tryz.prog) wr 185 5 Tryz.underlying185 Tryz.underlying5 g 0 (b.length - 1) cap (ints b.dropLast) (by simp [ints]) (fun i hi => by
          have h := (own_at HO.out (i : Int) (by omega) (by omega)).1
          rw [Int.toNat_natCast, rd_ints _ _ (by omega)] at h
          rw [Nat.zero_add, h]
          simp [ints, List.getD_eq_getElem?_getD, List.getElem?_dropLast, hi, List.getElem?_eq_getElem (show i < b.length by omega)]) 9 Tryz.underlying9
        rw [strOfNums_ints] at hcv2
        have hlast := (own_at HO.out ((b.length : Int) - 1) (by omega) (by omega)).1
        rw [show ((b.length : Int) - 1).toNat = b.length - 1 from by omega, show ((b.length : Int) - 1) = ((b.length - 1 : Nat) : Int) from by omega, rd_ints _ _ (by omega)] at hlast
        have hgl2 := getLast_getD b hn
        generalize b.getD (b.length - 1) 0 = d at *
        have HG := Lib.hid hgl2; clear hgl2
        have HN := Lib.hid hn; clear hn
        by_cases hd : d = 32
        · subst hd
          go_wp2
          go_ret
          exact ⟨ret_str (by unfold prepB; rw [← HFULL.out]; simp [prepTrim, HG.out]), HB2.out⟩
        · have hd2 := u8_ne32 hd
          go_wp2
          go_ret
          exact ⟨ret_str (by unfold prepB; rw [← HFULL.out]; simp [prepTrim, HG.out, hd]), HB2.out⟩
end Go.Proofs.YtfdmmnajaebfeaaGreatDoor
