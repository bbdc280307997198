/- Proved here: the reference's Fold, in and Type, for every text of at most 2^47 bytes. -/
import Derived.Test.YtfdmmnajaebfeaaGreatDoorA2
set_option linter.unusedVariables false
set_option linter.unusedSimpArgs false
set_option maxRecDepth 100000
namespace Go.Proofs.YtfdmmnajaebfeaaGreatDoor
open Go.RowKit Go.Proofs.YtfdmmnajaebfeaaGreatDoorW.PrintWords

theorem take_snoc' {α : Type} (l : List α) (i : Nat) (h : i < l.length) (d : α) : l.take (i + 1) = l.take i ++ [l.getD i d] := by
  rw [List.take_add_one, List.getElem?_eq_getElem h]
  simp [List.getD_eq_getElem?_getD, List.getElem?_eq_getElem h]
theorem foldL_take (s : ByteArray) (k : Nat) (h : k < s.size) : foldL (s.data.toList.take (k + 1)) = foldL (s.data.toList.take k) ++ [lowB (s.data.toList.getD k 0)] := by
  rw [take_snoc' _ k (by rw [data_length]; exact h) 0]
  simp [foldL]

set_option maxHeartbeats 2000000 in
theorem r1_Fold (s : ByteArray) (w : World) (hs : s.size ≤ 140737488351232) :
    Calls Tryz.prog 84 #[.string s] w fun e w' => e = .returned (.string (foldB s)) ∧ Below w.heap.size w w' := by
  go_enter Tryz.func84, Tryz.ntmps84
  go_wp2
  go_loopw [3, 4] (fun v i wr => ∃ k : Nat, k ≤ s.size ∧ i = .int .i64 k ∧ Below w.heap.size w wr ∧ wr.ownsRow w.heap.size 5 1 v (foldL (s.data.toList.take k)).length (nums .u8 (ints (foldL (s.data.toList.take k))))) (fun _ i _ => s.size - (intOf i).toNat)
  case atStart => exact ⟨0, Nat.zero_le _, rfl, Below.refl _ _, own_nil _ _ _ _⟩
  case round =>
    obtain ⟨k, hk, rfl, hB, hO⟩ := hrel
    have hbl : (foldL (s.data.toList.take k)).length ≤ k := by simp [foldL]; omega
    by_cases hlt : k < s.size
    · have hst := foldL_take s k hlt
      have hcc : s.data.toList.getD k 0 = s[k] := by
        rw [List.getD_eq_getElem?_getD, List.getElem?_eq_getElem (by rw [data_length]; exact hlt)]; rfl
      rw [hcc] at hst
      have hlow := lowB_int s[k]
      have hu := s[k].toNat_lt
      generalize foldL (s.data.toList.take k) = b at *
      have HST := Lib.hid hst; clear hst
      have HB := Lib.hid hB; clear hB
      have HO := Lib.hid hO; clear hO
      have HLOW := Lib.hid hlow; clear hlow hcc
      go_wp2_with ((at_builtin; refine print_append_num (w0 := w) w.heap.size rfl (.tmp 24) (.tmp 26) 185 5 .u8 1 rfl Tryz.underlying185 info5 (by decide) _ (ints b) _ rfl rfl ?O HB.out HB.out.size ?L ?_; (case O => rw [ints_length]; exact HO.out); (case L => rw [ints_length]; omega); intro v1 w1 ho hb1 hg hat; clear hg hat; have HO1 := Lib.hid ho; have HB1 := Lib.hid hb1; clear ho hb1))
      all_goals
        go_roundw
        case rel =>
          refine ⟨k + 1, by omega, by go_num, HB1.out, ?_⟩
          rw [HST.out]
          have h := HO1.out
          have hl := HLOW.out
          have e : ∀ x : Int, x = ((lowB s[k]).toNat : Int) → ints b ++ [x] = ints (b ++ [lowB s[k]]) := fun x hx => by rw [hx, ints_snoc]
          rw [e _ (by rw [hl]; split <;> omega), ints_length] at h
          exact h
        case measure => simp [intOf]; omega
    · have hks : k = s.size := by omega
      have hf : foldL (s.data.toList.take k) = foldL s.data.toList := by rw [hks, List.take_of_length_le (by rw [data_length]; exact Nat.le_refl _)]
      rw [hf] at hO
      have hcv := own_string (P := Tryz.prog) Tryz.underlying185 Tryz.underlying5 Tryz.underlying9 hO
      rw [strOfNums_ints] at hcv
      obtain ⟨A, cp, rfl⟩ := own_slice hO
      have HB := Lib.hid hB; clear hB hO hf hks hbl
      go_wp2
      go_ret
      exact ⟨ret_str rfl, HB.out⟩

/-- r9.in: is c one of the bytes of s -/
theorem r9_in (c : Nat) (s : ByteArray) (w : World) (hs : s.size ≤ 1000) :
    Calls Tryz.prog 154 #[.int .u8 (c : Int), .string s] w fun e w' => e = .returned (.bool (s.data.toList.any fun b => b.toNat == c)) ∧ w' = w := by
  go_enter Tryz.func154, Tryz.ntmps154
  go_wp2
  go_loopw [5] (fun i wr => ∃ k : Nat, k ≤ s.size ∧ i = .int .i64 k ∧ wr = w ∧ (s.data.toList.take k).any (fun b => b.toNat == c) = false) (fun i _ => s.size - (intOf i).toNat)
  case atStart => exact ⟨0, Nat.zero_le _, rfl, rfl, rfl⟩
  case round =>
    obtain ⟨k, hk, rfl, rfl, hn⟩ := hrel
    by_cases hlt : k < s.size
    · have hcc : s.data.toList.getD k 0 = s[k] := by
        rw [List.getD_eq_getElem?_getD, List.getElem?_eq_getElem (by rw [data_length]; exact hlt)]; rfl
      have hst := take_snoc' s.data.toList k (by rw [data_length]; exact hlt) 0
      rw [hcc] at hst
      have hmem : s[k] ∈ s.data.toList := by
        rw [← hcc, List.getD_eq_getElem?_getD, List.getElem?_eq_getElem (by rw [data_length]; exact hlt)]
        exact List.getElem_mem _
      have HST := Lib.hid hst
      have HM := Lib.hid hmem
      have HN := Lib.hid hn
      clear hst hmem hn hcc
      by_cases he : s[k].toNat = c
      · have he' : ((s[k].toNat : Int) == (c : Int)) = true := by simp [he]
        clear hk
        have HE := Lib.hid he; clear he
        go_wp2
        go_ret
        exact ⟨ret_bool (List.any_eq_true.2 ⟨_, HM.out, by simp [HE.out]⟩).symm, rfl⟩
      · have he' : ((s[k].toNat : Int) == (c : Int)) = false := by simp; omega
        have HE := Lib.hid he; clear he
        go_wp2
        go_roundw
        case rel => exact ⟨k + 1, by omega, by go_num, trivial, by rw [HST.out, List.any_append, HN.out]; simpa using HE.out⟩
        case measure => simp [intOf]; omega
    · have hks : s.data.toList.take k = s.data.toList := List.take_of_length_le (by rw [data_length]; omega)
      rw [hks] at hn
      have HN := Lib.hid hn; clear hn hks
      go_wp2
      go_ret
      exact ⟨ret_bool HN.out.symm, rfl⟩

def letS : ByteArray := ⟨#[97, 98, 99, 100, 101, 102, 103, 104, 105, 106, 107, 108, 109, 110, 111, 112, 113, 114, 115, 116, 117, 118, 119, 120, 121, 122]⟩
def digS : ByteArray := ⟨#[48, 49, 50, 51, 52, 53, 54, 55, 56, 57, 45]⟩
/-- May the byte stand at place i of a type's name? -/
def tyGood (f : List UInt8) (i : Nat) : Bool := letS.data.toList.any (fun b => b.toNat == (f.getD i 0).toNat) || (decide (0 < i) && digS.data.toList.any (fun b => b.toNat == (f.getD i 0).toNat))
def tyTo (f : List UInt8) (k : Nat) : Bool := decide (1 ≤ f.length) && decide (f.length ≤ 32) && (List.range k).all (tyGood f)
/-- layer 9's Type -/
def typeB (s : ByteArray) : Bool := tyTo (foldL s.data.toList) s.size
theorem tyTo_succ (f : List UInt8) (k : Nat) (h : tyTo f k = true) : tyTo f (k + 1) = tyGood f k := by
  unfold tyTo at h ⊢
  simp only [Bool.and_eq_true] at h
  rw [List.range_succ, List.all_append, h.2]
  simp [h.1.1, h.1.2]
theorem tyTo_false (f : List UInt8) (k m : Nat) (hk : k ≤ m) (h : tyTo f k = false) : tyTo f m = false := by
  cases hm : tyTo f m with
  | false => rfl
  | true =>
    exfalso
    unfold tyTo at h hm
    simp only [Bool.and_eq_true, List.all_eq_true, List.mem_range] at hm
    have : (List.range k).all (tyGood f) = true := by
      simp only [List.all_eq_true, List.mem_range]
      exact fun x hx => hm.2 x (by omega)
    rw [this, hm.1.1, hm.1.2] at h
    simp at h

set_option maxHeartbeats 4000000 in
theorem r9_Type (s : ByteArray) (w : World) (hs : s.size ≤ 140737488351232) :
    Calls Tryz.prog 113 #[.string s] w fun e w' => e = .returned (.bool (typeB s)) ∧ Below w.heap.size w w' := by
  go_enter Tryz.func113, Tryz.ntmps113
  go_wp2_with fail
  refine (r1_Fold s w hs).mono ?_
  rintro e W ⟨rfl, hW⟩
  have HW := Lib.hid hW; clear hW
  have hT : typeB s = tyTo (foldB s).data.toList (foldB s).size := by unfold typeB; rw [foldB_size]; rfl
  have hsz : (foldB s).size ≤ 140737488351232 := by rw [foldB_size]; exact hs
  clear hs
  generalize foldB s = f at *
  have hd := data_length f
  have HSZ := Lib.hid hsz
  have HT := Lib.hid hT; clear hT
  have hf1 : (decide (1 ≤ f.size) && decide (f.size ≤ 32)) = tyTo f.data.toList 0 := by simp [tyTo, hd]
  have HF1 := Lib.hid hf1; clear hf1
  obtain ⟨b0, hb0⟩ : ∃ b, b = tyTo f.data.toList 0 := ⟨_, rfl⟩
  by_cases h1 : 1 ≤ f.size
  · by_cases h2 : f.size ≤ 32
    · have hb : b0 = true := by rw [hb0, ← HF1.out]; simp [h1, h2]
      have HB0 := Lib.hid (hb0.symm.trans hb); clear hb hb0
      clear hsz
      go_wp2
      go_loopw [4, 5] (fun v i wr => ∃ k : Nat, k ≤ f.size ∧ i = .int .i64 k ∧ wr = W ∧ v = .bool (tyTo f.data.toList k)) (fun _ i _ => f.size - (intOf i).toNat)
      case atStart => exact ⟨0, Nat.zero_le _, rfl, rfl, by rw [HB0.out]; simp; omega⟩
      case round =>
        obtain ⟨k, hk, rfl, rfl, rfl⟩ := hrel
        obtain ⟨ok, hok⟩ : ∃ ok, ok = tyTo f.data.toList k := ⟨_, rfl⟩
        rw [← hok]
        have HOK := Lib.hid hok; clear hok
        by_cases hlt : k < f.size
        · cases ok with
          | false =>
            have HE := Lib.hid (tyTo_false f.data.toList k f.size (by omega) HOK.out.symm)
            go_wp2
            go_ret
            exact ⟨ret_bool (by rw [HT.out, HE.out]), HW.out⟩
          | true =>
            have hcc : f.data.toList.getD k 0 = f[k] := by
              rw [List.getD_eq_getElem?_getD, List.getElem?_eq_getElem (by rw [data_length]; exact hlt)]; rfl
            have hst := tyTo_succ f.data.toList k HOK.out.symm
            unfold tyGood at hst
            rw [hcc] at hst
            clear hcc
            have HST := Lib.hid hst; clear hst
            have hi1 := fun W => r9_in f[k].toNat letS W (by decide)
            have hi2 := fun W => r9_in f[k].toNat digS W (by decide)
            obtain ⟨x1, hx1⟩ : ∃ x, x = letS.data.toList.any (fun b => b.toNat == f[k].toNat) := ⟨_, rfl⟩
            obtain ⟨x2, hx2⟩ : ∃ x, x = digS.data.toList.any (fun b => b.toNat == f[k].toNat) := ⟨_, rfl⟩
            rw [← hx1] at hi1
            rw [← hx2] at hi2
            have HX : Hid (tyTo f.data.toList (k + 1) = (x1 || (decide (0 < k) && x2))) := Lib.hid (by rw [HST.out, hx1, hx2])
            have HI1 := Lib.hid hi1
            have HI2 := Lib.hid hi2
            clear hi1 hi2 hx1 hx2 HST
            cases x1 with
            | true =>
              go_wp2_with fail
              refine (HI1.out _).mono ?_
              rintro e W1 ⟨rfl, rfl⟩
              go_wp2
              go_roundw
              case rel => exact ⟨k + 1, by omega, by go_num, trivial, by rw [HX.out]; rfl⟩
              case measure => simp [intOf]; omega
            | false =>
              by_cases h0 : 0 < k
              · cases x2
                all_goals
                  go_wp2_with fail
                  refine (HI1.out _).mono ?_
                  rintro e W1 ⟨rfl, rfl⟩
                  go_wp2_with fail
                  refine (HI2.out _).mono ?_
                  rintro e W1 ⟨rfl, rfl⟩
                  go_wp2
                  go_roundw
                  case rel => exact ⟨k + 1, by omega, by go_num, trivial, by rw [HX.out]; simp [h0]⟩
                  case measure => simp [intOf]; omega
              · have hk0 : k = 0 := by omega
                subst hk0
                go_wp2_with fail
                refine (HI1.out _).mono ?_
                rintro e W1 ⟨rfl, rfl⟩
                go_wp2
                go_roundw
                case rel => exact ⟨1, by omega, by go_num, trivial, by rw [HX.out]; rfl⟩
                case measure => simp [intOf]; omega
        · have hks : k = f.size := by omega
          have HE : Hid (typeB s = ok) := Lib.hid (by rw [HT.out, HOK.out, hks])
          clear hks
          go_wp2
          go_ret
          exact ⟨ret_bool HE.out.symm, HW.out⟩
    · have hb : tyTo f.data.toList 0 = false := by rw [← HF1.out]; simp; omega
      have HE := Lib.hid (tyTo_false f.data.toList 0 f.size (by omega) hb)
      have h3 : 0 < f.size := by omega
      clear hb hsz hb0
      go_wp2
      go_loopw [4, 5] (fun v i wr => v = .bool false ∧ i = .int .i64 0 ∧ wr = W) (fun _ i _ => f.size - (intOf i).toNat)
      case atStart => exact ⟨by simp; omega, rfl, rfl⟩
      case round =>
        obtain ⟨rfl, rfl, rfl⟩ := hrel
        go_wp2
        go_ret
        exact ⟨ret_bool (by rw [HT.out, HE.out]), HW.out⟩
  · have h3 : f.size = 0 := by omega
    have hb : tyTo f.data.toList 0 = false := by rw [← HF1.out]; simp [h3]
    have HE := Lib.hid (tyTo_false f.data.toList 0 f.size (by omega) hb)
    clear hb hsz hb0 h1
    have H3 := Lib.hid h3
    go_wp2
    go_loopw [4, 5] (fun v i wr => v = .bool false ∧ i = .int .i64 0 ∧ wr = W) (fun _ i _ => f.size - (intOf i).toNat)
    case atStart => exact ⟨by simp, rfl, rfl⟩
    case round =>
      obtain ⟨rfl, rfl, rfl⟩ := hrel
      go_wp2
      go_ret
      exact ⟨ret_bool (by rw [HT.out, HE.out]), HW.out⟩
end Go.Proofs.YtfdmmnajaebfeaaGreatDoor
