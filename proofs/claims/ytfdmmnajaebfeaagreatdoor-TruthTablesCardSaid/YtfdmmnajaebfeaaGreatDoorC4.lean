/- Proved here: TruthTables answers true, for every list and word, where utf8's two tables lie as laid. -/
import Derived.Test.YtfdmmnajaebfeaaGreatDoorC3
set_option linter.unusedVariables false
set_option linter.unusedSimpArgs false
set_option maxRecDepth 100000
namespace Go.Proofs.YtfdmmnajaebfeaaGreatDoor
open Go.RowKit Go.Proofs.YtfdmmnajaebfeaaGreatDoorW.PrintWords

theorem ref_count (A : Option Addr) (c : Nat) (l : List Int) (x : Int) (w : World) (hl : l.length ≤ 140737488351232) (hr : (Kd.int .i64).C w A l.length l) :
    Calls Tryz.prog 29 #[.slice A l.length c, .int .i64 x] w fun e w' => e = .returned (.int .i64 (l.count x)) ∧ w' = w := by
  go_enter Tryz.func29, Tryz.ntmps29
  go_wp2
  go_loop [5, 10] (fun o i => ∃ k : Nat, k ≤ l.length ∧ i = .int .i64 k ∧ o = .int .i64 ((l.take k).count x)) (fun _ i => l.length - (intOf i).toNat)
  case atStart => exact ⟨0, Nat.zero_le _, rfl, rfl⟩
  case round =>
    obtain ⟨k, hk, rfl, rfl⟩ := hrel
    by_cases hlt : k < l.length
    · obtain ⟨ad, rfl, h0⟩ := at_Int hr k (by omega)
      have hs := take_snoc l k hlt 0
      have hcl : (l.take k).count x ≤ k := Nat.le_trans (List.count_le_length) (by simp; omega)
      generalize hm : (l.take k).count x = m at *
      generalize l.getD k 0 = v at *
      have hc : (l.take (k + 1)).count x = if v = x then m + 1 else m := by
        rw [hs, List.count_append, hm]
        by_cases e : v = x
        · subst e; simp
        · rw [if_neg e, List.count_singleton]
          simp [e]
      have HC := Lib.hid hc
      clear hc hs hm
      by_cases e : v = x
      · have e' : (v == x) = true := by simp [e]
        have HE := Lib.hid e; clear e
        go_wp2
        go_round
        case rel => exact ⟨k + 1, by omega, by go_num, by rw [HC.out, if_pos HE.out]; go_num⟩
        case measure => simp [intOf]; omega
      · have e' : (v == x) = false := by simpa using e
        have HE := Lib.hid e; clear e
        go_wp2
        go_round
        case rel => exact ⟨k + 1, by omega, by go_num, by rw [HC.out, if_neg HE.out]⟩
        case measure => simp [intOf]; omega
    · have hks : k = l.length := by omega
      rw [hks, List.take_of_length_le (Nat.le_refl _)]
      clear hks
      obtain ⟨m, hm⟩ : ∃ m, m = l.count x := ⟨_, rfl⟩
      rw [← hm]
      have HM := Lib.hid hm; clear hm
      go_wp2
      go_ret
      exact ⟨ret_int (by rw [HM.out]), rfl⟩

theorem tAnd_ref (l : List Int) : tAnd l = if 0 < l.count 0 then 0 else if l.count 1 < l.length then 2 else 1 := by
  unfold tAnd
  by_cases h0 : l.contains 0 = true
  · rw [if_pos h0, if_pos (List.count_pos_iff.2 (by simpa using h0))]
  · have hz : ¬ 0 < l.count 0 := by rw [List.count_pos_iff]; simpa using h0
    rw [if_neg h0]
    by_cases h1 : l.all (· == 1) = true
    · rw [if_pos h1, if_neg hz]
      have : l.count 1 = l.length := List.count_eq_length.2 (fun b hb => by have h := List.all_eq_true.1 h1 b hb; simp at h; exact h.symm)
      rw [if_neg (by omega)]
    · rw [if_neg h1, if_neg hz]
      have h2 : l.count 1 ≠ l.length := fun e => h1 (List.all_eq_true.2 (fun b hb => by simpa using (List.count_eq_length.1 e b hb).symm))
      have := @List.count_le_length _ _ 1 l
      rw [if_pos (by omega)]

theorem tOr_ref (l : List Int) : tOr l = if 0 < l.count 1 then 1 else if l.count 0 < l.length then 2 else 0 := by
  have e1 : (l.map tNot).count 0 = l.count 1 := by
    rw [List.count, List.countP_map, List.count]
    apply List.countP_congr
    intro x _
    simp only [Function.comp, tNot]
    split
    · simp [*]
    · split <;> simp [*]
  have e2 : (l.map tNot).count 1 = l.count 0 := by
    rw [List.count, List.countP_map, List.count]
    apply List.countP_congr
    intro x _
    simp only [Function.comp, tNot]
    split
    · simp [*]
    · split <;> simp [*]
  unfold tOr
  rw [tAnd_ref, e1, e2, List.length_map]
  split
  · rfl
  · split <;> rfl

theorem ref_And (A : Option Addr) (c : Nat) (l : List Int) (w : World) (hl : l.length ≤ 140737488351232) (hr : (Kd.int .i64).C w A l.length l) :
    Calls Tryz.prog 10 #[.slice A l.length c] w fun e w' => e = .returned (.int .i64 (tAnd l)) ∧ w' = w := by
  have h := tAnd_ref l
  have H := Lib.hid h; clear h
  have hc0 := ref_count A c l 0 w hl hr
  have hc1 := ref_count A c l 1 w hl hr
  generalize l.count 0 = m0 at *
  generalize l.count 1 = m1 at *
  have HR := Lib.hid hr; clear hr
  have H0 := Lib.hid hc0; clear hc0
  have H1 := Lib.hid hc1; clear hc1
  by_cases h0 : 0 < m0
  · go_enter Tryz.func10, Tryz.ntmps10
    go_wp2_with fail
    refine H0.out.mono ?_
    rintro e W ⟨rfl, rfl⟩
    go_wp2
    go_ret
    exact ⟨ret_int (by rw [H.out, if_pos h0]), rfl⟩
  · by_cases h1 : m1 < l.length
    all_goals
      go_enter Tryz.func10, Tryz.ntmps10
      go_wp2_with fail
      refine H0.out.mono ?_
      rintro e W ⟨rfl, rfl⟩
      go_wp2_with fail
      refine H1.out.mono ?_
      rintro e W ⟨rfl, rfl⟩
      go_wp2
      go_ret
      exact ⟨ret_int (by rw [H.out, if_neg h0]; simp [h1]), rfl⟩
theorem ref_Or (A : Option Addr) (c : Nat) (l : List Int) (w : World) (hl : l.length ≤ 140737488351232) (hr : (Kd.int .i64).C w A l.length l) :
    Calls Tryz.prog 12 #[.slice A l.length c] w fun e w' => e = .returned (.int .i64 (tOr l)) ∧ w' = w := by
  have h := tOr_ref l
  have H := Lib.hid h; clear h
  have hc0 := ref_count A c l 0 w hl hr
  have hc1 := ref_count A c l 1 w hl hr
  generalize l.count 0 = m0 at *
  generalize l.count 1 = m1 at *
  have HR := Lib.hid hr; clear hr
  have H0 := Lib.hid hc0; clear hc0
  have H1 := Lib.hid hc1; clear hc1
  by_cases h0 : 0 < m1
  · go_enter Tryz.func12, Tryz.ntmps12
    go_wp2_with fail
    refine H1.out.mono ?_
    rintro e W ⟨rfl, rfl⟩
    go_wp2
    go_ret
    exact ⟨ret_int (by rw [H.out, if_pos h0]), rfl⟩
  · by_cases h1 : m0 < l.length
    all_goals
      go_enter Tryz.func12, Tryz.ntmps12
      go_wp2_with fail
      refine H1.out.mono ?_
      rintro e W ⟨rfl, rfl⟩
      go_wp2_with fail
      refine H0.out.mono ?_
      rintro e W ⟨rfl, rfl⟩
      go_wp2
      go_ret
      exact ⟨ret_int (by rw [H.out, if_neg h0]; simp [h1]), rfl⟩
theorem ref_Not (v : Int) (w : World) : Calls Tryz.prog 14 #[.int .i64 v] w fun e w' => e = .returned (.int .i64 (tNot v)) ∧ w' = w := by
  by_cases h0 : v = 0
  · subst h0
    go_enter Tryz.func14, Tryz.ntmps14
    go_wp2
    go_ret
    exact ⟨rfl, rfl⟩
  · by_cases h1 : v = 1
    · subst h1
      go_enter Tryz.func14, Tryz.ntmps14
      go_wp2
      go_ret
      exact ⟨rfl, rfl⟩
    · have b0 : (v == 0) = false := by simpa using h0
      have b1 : (v == 1) = false := by simpa using h1
      have e : tNot v = 2 := by simp [tNot, h0, h1]
      rw [e]
      clear h0 h1 e
      go_enter Tryz.func14, Tryz.ntmps14
      go_wp2
      go_ret
      exact ⟨rfl, rfl⟩

/-- The law, of whatever slice and word. -/
theorem law_TruthTables (A : Option Addr) (c : Nat) (l : List Int) (x : Int) (w : World) (hT : Lib.Utf8Tabs 0 1 w) (h2 : 2 ≤ w.heap.size) (hr : (Kd.int .i64).C w A l.length l) :
    Calls Tryz.prog 3 #[.slice A l.length c, .int .i64 x] w fun e w' => e = .returned (.bool true) ∧ Below w.heap.size w w' := by
  have HR := Lib.hid hr; clear hr
  have HT := Lib.hid hT; clear hT
  by_cases hl : l.length ≤ 1000
  · go_enter Tryz.func3, Tryz.ntmps3
    go_wp2_with fail
    refine (law21_awake w HT.out h2).mono ?_
    rintro e W1 ⟨rfl, hW1⟩
    have HR1 := Lib.hid (Kd.C_below HR.out hW1)
    have HW1 := Lib.hid hW1; clear hW1
    go_wp2_with fail
    refine (truth_And A c l _ (by omega) HR1.out).mono ?_
    rintro e W ⟨rfl, rfl⟩
    go_wp2_with fail
    refine (ref_And A c l _ (by omega) HR1.out).mono ?_
    rintro e W ⟨rfl, rfl⟩
    go_wp2_with fail
    refine (truth_Or A c l _ (by omega) HR1.out).mono ?_
    rintro e W2 ⟨rfl, hW2⟩
    have HR2 := Lib.hid (Kd.C_below HR1.out hW2)
    have HW2 := Lib.hid (HW1.out.trans (hW2.mono HW1.out.size)); clear hW2
    go_wp2_with fail
    refine (ref_Or A c l _ (by omega) HR2.out).mono ?_
    rintro e W ⟨rfl, rfl⟩
    go_wp2_with fail
    refine (truth_Not x _).mono ?_
    rintro e W ⟨rfl, rfl⟩
    go_wp2_with fail
    refine (ref_Not x _).mono ?_
    rintro e W ⟨rfl, rfl⟩
    go_wp2
    go_ret
    exact ⟨rfl, HW2.out⟩
  · have hl2 : 1000 < l.length := by omega
    go_enter Tryz.func3, Tryz.ntmps3
    go_wp2_with fail
    refine (law21_awake w HT.out h2).mono ?_
    rintro e W1 ⟨rfl, hW1⟩
    have HW1 := Lib.hid hW1; clear hW1
    go_wp2
    go_ret
    exact ⟨rfl, HW1.out⟩
end Go.Proofs.YtfdmmnajaebfeaaGreatDoor
