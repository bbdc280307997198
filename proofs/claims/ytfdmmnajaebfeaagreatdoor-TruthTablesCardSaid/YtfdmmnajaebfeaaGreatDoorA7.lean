/- Proved here: truth's Not, And and Or, for every word and every list that is laid in memory. -/
import Derived.Test.YtfdmmnajaebfeaaGreatDoorA2
set_option linter.unusedVariables false
set_option linter.unusedSimpArgs false
set_option maxRecDepth 100000
namespace Go.Proofs.YtfdmmnajaebfeaaGreatDoor
open Go.RowKit Go.Proofs.YtfdmmnajaebfeaaGreatDoorW.PrintWords

theorem at_Int {w : World} {A : Option Addr} {n : Nat} {xs : List Int} (h : (Kd.int .i64).C w A n xs) (i : Nat) (h1 : i < n) : ∃ ad, A = some ad ∧ w.cell? (ad.add i) = some (.int .i64 (xs.getD i 0)) := by
  obtain ⟨ad, c, e, _, hK, hc0⟩ := Kd.C_get h (0 : Int) (i : Int) (by omega) (by omega)
  rw [Int.toNat_natCast] at hK hc0
  obtain rfl : c = [.int .i64 (xs.getD i 0)] := hK
  have hc : w.cell? (ad.add (i * 1 + 0)) = some (.int .i64 (xs.getD i 0)) := hc0 0 _ rfl
  rw [Nat.mul_one, Nat.add_zero] at hc
  exact ⟨ad, e, hc⟩

def tNot (v : Int) : Int := if v = 0 then 1 else if v = 1 then 0 else 2
def tAnd (l : List Int) : Int := if l.contains 0 = true then 0 else if l.all (· == 1) = true then 1 else 2
def tOr (l : List Int) : Int := tNot (tAnd (l.map tNot))

theorem truth_Not (v : Int) (w : World) : Calls Tryz.prog 13 #[.int .i64 v] w fun e w' => e = .returned (.int .i64 (tNot v)) ∧ w' = w := by
  by_cases h0 : v = 0
  · subst h0
    go_enter Tryz.func13, Tryz.ntmps13
    go_wp2
    go_ret
    exact ⟨rfl, rfl⟩
  · by_cases h1 : v = 1
    · subst h1
      go_enter Tryz.func13, Tryz.ntmps13
      go_wp2
      go_ret
      exact ⟨rfl, rfl⟩
    · have b0 : (v == 0) = false := by simpa using h0
      have b1 : (v == 1) = false := by simpa using h1
      have hv : tNot v = 2 := by simp [tNot, h0, h1]
      have HV := Lib.hid hv
      clear hv h0 h1
      go_enter Tryz.func13, Tryz.ntmps13
      go_wp2
      go_ret
      exact ⟨ret_int HV.out.symm, rfl⟩

def andTo (l : List Int) : Int := if l.all (· == 1) = true then 1 else 2
theorem take_snoc {α : Type} (l : List α) (k : Nat) (h : k < l.length) (d : α) : l.take (k + 1) = l.take k ++ [l.getD k d] := by
  rw [List.take_succ_eq_append_getElem h]; simp [List.getD_eq_getElem?_getD, List.getElem?_eq_getElem h]
set_option maxHeartbeats 2000000 in
theorem truth_And (A : Option Addr) (c : Nat) (l : List Int) (w : World) (hl : l.length ≤ 140737488351232) (hr : (Kd.int .i64).C w A l.length l) :
    Calls Tryz.prog 9 #[.slice A l.length c] w fun e w' => e = .returned (.int .i64 (tAnd l)) ∧ w' = w := by
  go_enter Tryz.func9, Tryz.ntmps9
  go_wp2
  go_loop [3, 8] (fun o i => ∃ k : Nat, k ≤ l.length ∧ i = .int .i64 k ∧ o = .int .i64 (andTo (l.take k)) ∧ (l.take k).contains 0 = false) (fun _ i => l.length - (intOf i).toNat)
  case atStart => exact ⟨0, Nat.zero_le _, rfl, rfl, rfl⟩
  case round =>
    obtain ⟨k, hk, rfl, rfl, hn⟩ := hrel
    by_cases hlt : k < l.length
    · obtain ⟨ad, rfl, h0⟩ := at_Int hr k (by omega)
      have hs := take_snoc l k hlt 0
      have hmem : l.getD k 0 ∈ l := by
        simp [List.getD_eq_getElem?_getD, List.getElem?_eq_getElem hlt]
      generalize l.getD k 0 = v at *
      have HS := Lib.hid hs; clear hs
      have HN := Lib.hid hn; clear hn
      have HM := Lib.hid hmem; clear hmem
      by_cases z : v = 0
      · subst z
        go_wp2
        go_ret
        exact ⟨ret_int (by simp only [tAnd]; rw [if_pos (by simpa using HM.out)]), rfl⟩
      · have b0 : (v == 0) = false := by simpa using z
        by_cases o : v = 1
        · subst o
          go_wp2
          go_round
          case rel => exact ⟨k + 1, by omega, by go_num, by rw [HS.out]; simp [andTo], by rw [HS.out]; simpa using HN.out⟩
          case measure => simp [intOf]; omega
        · have b1 : (v != 1) = true := by simpa using o
          have b2 : (v == 1) = false := by simpa using o
          have HO := Lib.hid o; clear o
          have HZ := Lib.hid z; clear z
          go_wp2
          go_round
          case rel => exact ⟨k + 1, by omega, by go_num, by rw [HS.out]; simp [andTo, HO.out], by rw [HS.out]; simp at HN ⊢; exact ⟨HN.out, fun e => HZ.out e.symm⟩⟩
          case measure => simp [intOf]; omega
    · have hks : k = l.length := by omega
      rw [hks, List.take_of_length_le (Nat.le_refl _)] at hn ⊢
      have hv : tAnd l = andTo l := by simp only [tAnd, hn]; rfl
      have HV := Lib.hid hv; clear hv hn hks
      go_wp2
      go_ret
      exact ⟨ret_int HV.out.symm, rfl⟩

/-- A row of whole numbers of the call's own, as one that is read. -/
theorem C_own {w : World} {base n : Nat} {e : TypeId} {v : Value} {xs : List Int} (h : w.ownsRow base e 1 v n (nums .i64 xs)) : ∃ A c, v = .slice A xs.length c ∧ xs.length ≤ c ∧ (Kd.int .i64).C w A xs.length xs := by
  have hl : xs.length = n := by have := h.1; simp [nums] at this; exact this
  subst hl
  have hR : (Kd.int .i64).R e w base (fun _ => True) v xs := Kd.R_of_own (enc := Value.int .i64) h (fun _ _ => trivial)
  obtain ⟨A, c, rfl, hc, hC⟩ := Kd.R_reads hR
  exact ⟨A, c, rfl, hc, hC⟩
set_option maxHeartbeats 2000000 in
theorem truth_Or (A : Option Addr) (c : Nat) (l : List Int) (w : World) (hl : l.length ≤ 17592186044000) (hr : (Kd.int .i64).C w A l.length l) :
    Calls Tryz.prog 11 #[.slice A l.length c] w fun e w' => e = .returned (.int .i64 (tOr l)) ∧ Below w.heap.size w w' := by
  go_enter Tryz.func11, Tryz.ntmps11
  go_wp2
  go_loopw [3, 8] (fun o i wr => ∃ k : Nat, k ≤ l.length ∧ i = .int .i64 k ∧ wr.ownsRow w.heap.size 3 1 o ((l.take k).map tNot).length (nums .i64 ((l.take k).map tNot)) ∧ Below w.heap.size w wr) (fun _ i _ => l.length - (intOf i).toNat)
  case atStart => exact ⟨0, Nat.zero_le _, rfl, own_nil _ _ _ _, Below.refl _ _⟩
  case round =>
    obtain ⟨k, hk, rfl, hO, hW⟩ := hrel
    by_cases hlt : k < l.length
    · obtain ⟨ad, rfl, h0⟩ := at_Int (Kd.C_below hr hW) k (by omega)
      have hs := take_snoc l k hlt 0
      generalize l.getD k 0 = v at *
      have hx : ((l.take k).map tNot).length = k := by simp; omega
      have HX := Lib.hid hx; clear hx
      have hs2 : (l.take (k + 1)).map tNot = (l.take k).map tNot ++ [tNot v] := by rw [hs]; simp
      have HS := Lib.hid hs2; clear hs hs2
      generalize (l.take k).map tNot = b at *
      have HO := Lib.hid hO; clear hO
      have HW := Lib.hid hW; clear hW
      go_wp2_with fail
      refine (truth_Not v _).mono ?_; rintro e W ⟨rfl, rfl⟩
      go_wp2_with ((at_builtin; refine print_append_num (w0 := w) w.heap.size rfl (.tmp 12) (.tmp 15) 22 3 .i64 8 rfl Tryz.underlying22 info3 (by decide) _ b (tNot v) rfl rfl HO.out HW.out HW.out.size ?L ?_; (case L => rw [HX.out]; omega); intro v1 w1 ho hb1 hg hat; clear hg hat; have HO1 := Lib.hid ho; have HB1 := Lib.hid hb1; clear ho hb1))
      go_roundw
      case rel => exact ⟨k + 1, by omega, by go_num, by rw [HS.out]; exact HO1.out, HB1.out⟩
      case measure => simp [intOf]; omega
    · have hks : k = l.length := by omega
      rw [hks, List.take_of_length_le (Nat.le_refl _)] at hO
      have hlm : (l.map tNot).length = l.length := by simp
      obtain ⟨A1, c1, rfl, hc1, hC⟩ := C_own hO
      have HL := Lib.hid hlm
      have HV := Lib.hid (show tOr l = tNot (tAnd (l.map tNot)) from rfl)
      clear hO hks hlm
      generalize l.map tNot = b at *
      have HW := Lib.hid hW; clear hW
      go_wp2_with fail
      refine (truth_And A1 c1 b _ (by rw [HL.out]; omega) hC).mono ?_; rintro e W ⟨rfl, rfl⟩
      go_wp2_with fail
      refine (truth_Not _ _).mono ?_; rintro e W ⟨rfl, rfl⟩
      go_wp2
      go_ret
      exact ⟨ret_int HV.out.symm, HW.out⟩
end Go.Proofs.YtfdmmnajaebfeaaGreatDoor
