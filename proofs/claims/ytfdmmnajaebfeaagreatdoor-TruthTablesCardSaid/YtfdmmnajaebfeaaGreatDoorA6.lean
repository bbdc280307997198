/- Proved here: slices' ContainsFunc over texts, and truth's one. -/
import Derived.Test.YtfdmmnajaebfeaaGreatDoorA5
set_option linter.unusedVariables false
set_option linter.unusedSimpArgs false
set_option maxRecDepth 100000
namespace Go.Proofs.YtfdmmnajaebfeaaGreatDoor
open Go.RowKit Go.Proofs.YtfdmmnajaebfeaaGreatDoorW.PrintWords
open PTruthCovers (S82 S71 S36 S143 S113 S228 k82 k71 k36 k143 k113 k228 at_T82 at_T71 rd_T82 rd_T71)

/-- One string of a row that is read. -/
theorem at_Str {w : World} {A : Option Addr} {n : Nat} {xs : List ByteArray} (h : Kd.string.C w A n xs) (i : Nat) (h1 : i < n) : ∃ ad, A = some ad ∧ w.cell? (ad.add i) = some (.string (xs.getD i ⟨#[]⟩)) := by
  obtain ⟨ad, c, e, _, hK, hc0⟩ := Kd.C_get h (⟨#[]⟩ : ByteArray) (i : Int) (by omega) (by omega)
  rw [Int.toNat_natCast] at hK hc0
  obtain rfl : c = [.string (xs.getD i ⟨#[]⟩)] := hK
  have hc : w.cell? (ad.add (i * 1 + 0)) = some (.string (xs.getD i ⟨#[]⟩)) := hc0 0 _ rfl
  rw [Nat.mul_one, Nat.add_zero] at hc
  exact ⟨ad, e, hc⟩

def strIx (p : ByteArray → Bool) (l : List ByteArray) : Int := match l.findIdx? p with | some i => (i : Int) | none => -1

set_option maxHeartbeats 2000000 in
theorem indexFunc_S (fn : FuncId) (caps : Array Value) (p : ByteArray → Bool) (henter : ∀ args w, (callFunc fn args).run Tryz.prog w = .ok (.enter fn args) w)
    (A : Option Addr) (c : Nat) (l : List ByteArray) (w : World) (hl : l.length ≤ 140737488351232) (hr : Kd.string.C w A l.length l)
    (hp : ∀ v ∈ l, ∀ W, Below w.heap.size w W → Calls Tryz.prog fn (#[.string v] ++ caps) W fun e w' => e = .returned (.bool (p v)) ∧ Below W.heap.size W w') :
    Calls Tryz.prog 76 #[.slice A l.length c, .func (.func fn) #[] caps] w fun e w' => e = .returned (.int .i64 (strIx p l)) ∧ Below w.heap.size w w' := by
  have HP := Lib.hid hp; clear hp
  go_enter Tryz.func76, Tryz.ntmps76
  go_wp2
  go_loopw [8] (fun i wr => ∃ k : Nat, k ≤ l.length ∧ i = .int .i64 k ∧ (l.take k).findIdx? p = none ∧ Below w.heap.size w wr) (fun i _ => l.length - (intOf i).toNat)
  case atStart => exact ⟨0, Nat.zero_le _, rfl, rfl, Below.refl _ _⟩
  case round =>
    obtain ⟨k, hk, rfl, hn, hW⟩ := hrel
    by_cases hlt : k < l.length
    · obtain ⟨ad, rfl, h0⟩ := at_Str (Kd.C_below hr hW) k (by omega)
      have hmem : l.getD k ⟨#[]⟩ ∈ l := by
        simp [List.getD_eq_getElem?_getD, List.getElem?_eq_getElem hlt]
      have hst := findIdx_take_none p l k hlt ⟨#[]⟩ hn
      have hC := HP.out _ hmem wr hW
      generalize l.getD k ⟨#[]⟩ = v at *
      have HST := Lib.hid hst; clear hst hn hmem
      have HC := Lib.hid hC; clear hC
      go_wp2_with fail
      refine HC.out.mono ?_; rintro e W ⟨rfl, hW1⟩
      have hW2 : Below w.heap.size w W := hW.trans (hW1.mono hW.size)
      clear hW1 h0
      have HW := Lib.hid hW2; clear hW2 hW
      cases hq : p v with
      | true =>
        have hpv : p v = true := hq
        have HE := Lib.hid (HST.out.2 hpv); clear hq hpv
        go_wp2
        go_ret
        exact ⟨ret_int (by simp [strIx, HE.out]), HW.out⟩
      | false =>
        have hpv : p v = false := hq
        have HE := Lib.hid (HST.out.1 hpv); clear hq hpv
        go_wp2
        go_roundw
        case rel => exact ⟨k + 1, by omega, by go_num, HE.out, HW.out⟩
        case measure => simp [intOf]; omega
    · have hks : k = l.length := by omega
      have hn2 : strIx p l = -1 := by
        unfold strIx; rw [hks, List.take_of_length_le (Nat.le_refl _)] at hn; rw [hn]
      have HN := Lib.hid hn2; clear hn2 hn hks
      have HW := Lib.hid hW; clear hW
      go_wp2
      go_ret
      exact ⟨ret_int HN.out.symm, HW.out⟩

theorem strIx_any (p : ByteArray → Bool) (l : List ByteArray) : decide (0 ≤ strIx p l) = l.any p := by
  unfold strIx
  cases h : l.findIdx? p with
  | none =>
    have := List.findIdx?_eq_none_iff.1 h
    rw [List.any_eq_false.2 (fun x hx => by simp [this x hx])]
    rfl
  | some i =>
    have h1 := (List.findIdx?_eq_some_iff_getElem.1 h)
    obtain ⟨h2, h3, _⟩ := h1
    rw [List.any_eq_true.2 ⟨l[i], List.getElem_mem h2, h3⟩]
    simp
set_option maxHeartbeats 2000000 in
theorem containsFunc_S (fn : FuncId) (caps : Array Value) (p : ByteArray → Bool) (henter : ∀ args w, (callFunc fn args).run Tryz.prog w = .ok (.enter fn args) w)
    (A : Option Addr) (c : Nat) (l : List ByteArray) (w : World) (hl : l.length ≤ 140737488351232) (hr : Kd.string.C w A l.length l)
    (hp : ∀ v ∈ l, ∀ W, Below w.heap.size w W → Calls Tryz.prog fn (#[.string v] ++ caps) W fun e w' => e = .returned (.bool (p v)) ∧ Below W.heap.size W w') :
    Calls Tryz.prog 37 #[.slice A l.length c, .func (.func fn) #[] caps] w fun e w' => e = .returned (.bool (l.any p)) ∧ Below w.heap.size w w' := by
  have HC := Lib.hid (indexFunc_S fn caps p henter A c l w hl hr hp); clear hp henter
  have HA := Lib.hid (strIx_any p l)
  go_enter Tryz.func37, Tryz.ntmps37
  go_wp2_with fail
  refine HC.out.mono ?_; rintro e W ⟨rfl, hW⟩
  have HW := Lib.hid hW; clear hW
  go_wp2
  go_ret
  exact ⟨ret_bool HA.out, HW.out⟩
theorem truth_one (b : Bool) (w : World) : Calls Tryz.prog 36 #[.bool b] w fun e w' => e = .returned (.int .i64 (if b = true then 1 else 0)) ∧ w' = w := by
  cases b
  · go_enter Tryz.func36, Tryz.ntmps36
    go_wp2
    go_ret
    exact ⟨rfl, rfl⟩
  · go_enter Tryz.func36, Tryz.ntmps36
    go_wp2
    go_ret
    exact ⟨rfl, rfl⟩
end Go.Proofs.YtfdmmnajaebfeaaGreatDoor
