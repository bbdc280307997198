/- Proved here: schema.Find, the binary search and the clone of a row of texts, for every row that is laid in memory. -/
import Derived.Test.YtfdmmnajaebfeaaGreatDoorA3
import Derived.Test.YtfdmmnajaebfeaaGreatDoorShelf
set_option linter.unusedVariables false
set_option linter.unusedSimpArgs false
set_option maxRecDepth 100000
namespace Go.Proofs.YtfdmmnajaebfeaaGreatDoor
open Go.RowKit Go.Proofs.YtfdmmnajaebfeaaGreatDoorW.PrintWords
open PTruthCovers (S82 S71 S36 S143 S113 S228 k82 k71 k36 k143 k113 k228 at_T82 at_T71 rd_T82 rd_T71)

set_option maxHeartbeats 2000000 in
theorem schema_Find (A : Option Addr) (c : Nat) (l : List S82) (v2 : Value) (nm : ByteArray) (w : World) (hl : l.length ≤ 140737488351232) (hr : k82.C w A l.length l)
    (ha : ∀ t ∈ l, t.f0.size ≤ 140737488351232) (hb : nm.size ≤ 140737488351232) :
    Calls Tryz.prog 33 #[.agg #[.slice A l.length c, v2], .string nm] w fun e w' => e = .returned (.tuple #[tyV (tyGet l nm).1, .bool (tyGet l nm).2]) ∧ Below w.heap.size w w' := by
  go_enter Tryz.func33, Tryz.ntmps33
  go_wp2_with fail
  have hB0 : Below w.heap.size w ((w.alloc (Obj.cells #[Value.slice A l.length c, v2] 31)).alloc (.cells #[.string ⟨#[]⟩, .int .i64 0, .bool false, .bool false] 82)) :=
    ((Below.refl _ _).alloc (Nat.le_refl _) _).alloc (by simp) _
  have hC := schema_kind A c l v2 nm _ hl (Kd.C_below hr hB0) ha hb
  refine hC.mono ?_
  clear hC
  rintro e W ⟨rfl, hW⟩
  obtain ⟨hc, hf⟩ := bcell hW
  have hz := hW.size
  have hBW : Below w.heap.size w W := hB0.trans (hW.mono hB0.size)
  have HB := Lib.hid hBW
  clear hBW hB0 hW
  obtain ⟨t, ht⟩ : ∃ t, t = (tyGet l nm).1 := ⟨_, rfl⟩
  obtain ⟨ok, hok⟩ : ∃ t, t = (tyGet l nm).2 := ⟨_, rfl⟩
  rw [← ht, ← hok]
  have HT := Lib.hid ht; clear ht
  have HOK := Lib.hid hok; clear hok
  unfold tyV
  go_wp2
  exact bodyPost_ret (v := .tuple #[.agg #[.string t.f0, .int .i64 t.f1, .bool t.f2, .bool t.f3], .bool ok]) (by simp [results, Tryz.results33, go_sem, hc, hz]) rfl ⟨by rw [← HT.out, ← HOK.out]; rfl, by repeat (first | exact HB.out | refine Below.setCell ?_ (by show _ ≤ _; simp <;> omega) _ | refine Below.setCell ?_ (by show _ ≤ _; omega) _)⟩

/-- bytes' order, as Go tells it -/
def cmpB (a b : ByteArray) : Int := Lib.compareBytes a.data.toList b.data.toList
def atV (t : S71) (A : Option Addr) (c : Nat) : Value := .agg #[.string t.f0, .slice A t.f1.length c]
set_option maxHeartbeats 1000000 in
theorem place_1 (nm0 : ByteArray) (v1 : Value) (nm : ByteArray) (w : World) (ha : nm0.size ≤ 140737488351232) :
    Calls Tryz.prog 120 #[.agg #[.string nm0, v1], .string nm] w fun e w' => e = .returned (.int .i64 (cmpB (foldB nm0) nm)) ∧ Below w.heap.size w w' := by
  go_enter Tryz.func120, Tryz.ntmps120
  go_wp2_with fail
  refine (octet_Fold nm0 _ ha).mono ?_; rintro e W ⟨rfl, hW⟩
  go_wp2_with fail
  refine (Tryz.strings_Compare _ _ _).mono ?_; rintro e W1 ⟨rfl, rfl⟩
  go_wp2
  go_ret
  exact ⟨rfl, ((Below.refl _ _).alloc (Nat.le_refl _) _).trans (hW.mono (by simp))⟩

/-- Go's binary search: the answer of the loop, with as many rounds as are enough. -/
def bsGo (p : Nat → Bool) : Nat → Nat → Nat → Nat
  | 0, i, _ => i
  | k + 1, i, j => if i < j then (if p ((i + j) / 2) then bsGo p k ((i + j) / 2 + 1) j else bsGo p k i ((i + j) / 2)) else i
theorem bsGo_end (p : Nat → Bool) (f i : Nat) : bsGo p f i i = i := by cases f <;> simp [bsGo]
theorem bsGo_le (p : Nat → Bool) (n : Nat) : ∀ f i j, i ≤ j → j ≤ n → bsGo p f i j ≤ n
  | 0, i, j, h, h1 => by simp [bsGo]; omega
  | f + 1, i, j, h, h1 => by
    simp only [bsGo]
    split
    · split
      · exact bsGo_le p n f _ _ (by omega) h1
      · exact bsGo_le p n f _ _ (by omega) (by omega)
    · omega
def atLess (l : List S71) (nm : ByteArray) (i : Nat) : Bool := decide (cmpB (foldB (l.getD i PTruthCovers.z71).f0) nm < 0)
def atPlace (l : List S71) (nm : ByteArray) : Nat := bsGo (atLess l nm) l.length 0 l.length
def atThere (l : List S71) (nm : ByteArray) : Bool := decide (atPlace l nm < l.length) && (cmpB (foldB (l.getD (atPlace l nm) PTruthCovers.z71).f0) nm == 0)

theorem shr_half (i j : Nat) (h : i + j ≤ 281474976710656) : (((i : Int) + j) / 2).toNat = (i + j) / 2 := by omega
set_option maxHeartbeats 4000000 in
theorem binarySearch_A (A : Option Addr) (c : Nat) (l : List S71) (nm : ByteArray) (w : World) (hl : l.length ≤ 140737488351232) (hr : k71.C w A l.length l)
    (ha : ∀ t ∈ l, t.f0.size ≤ 140737488351232) :
    Calls Tryz.prog 119 #[.slice A l.length c, .string nm, .func (.func 120) #[] #[]] w fun e w' => e = .returned (.tuple #[.int .i64 (atPlace l nm : Nat), .bool (atThere l nm)]) ∧ Below w.heap.size w w' := by
  go_enter Tryz.func119, Tryz.ntmps119
  go_wp2
  go_loopw [9, 10] (fun iv jv wr => ∃ f i j : Nat, i ≤ j ∧ j ≤ l.length ∧ j - i ≤ f ∧ bsGo (atLess l nm) f i j = atPlace l nm ∧ iv = .int .i64 i ∧ jv = .int .i64 j ∧ Below w.heap.size w wr) (fun i j _ => (intOf j).toNat - (intOf i).toNat)
  case atStart => exact ⟨l.length, 0, l.length, Nat.zero_le _, Nat.le_refl _, by omega, rfl, rfl, rfl, Below.refl _ _⟩
  case round =>
    obtain ⟨f, i, j, hij, hj, hf, hb, rfl, rfl, hW⟩ := hrel
    have HB := Lib.hid hb; clear hb
    by_cases hlt : i < j
    · obtain ⟨h, hh⟩ : ∃ h : Nat, h = (i + j) / 2 := ⟨_, rfl⟩
      have hq : ((i : Int) + (j : Int)) / 2 = (h : Int) := by omega
      have hi1 : i ≤ h := by omega
      have hj1 : h < j := by omega
      have hn1 : h < l.length := by omega
      obtain ⟨ad, A1, c1, rfl, h0, h1, h2, h3⟩ := at_T71 (Kd.C_below hr hW) (h : Int) (by omega) (by omega)
      rw [Int.toNat_natCast] at h0 h1
      have hmem : rd_T71 l (h : Int) ∈ l := by
        simp [rd_T71, List.getD_eq_getElem?_getD, List.getElem?_eq_getElem hn1]
      have hrd : l.getD h PTruthCovers.z71 = rd_T71 l (h : Int) := by simp [rd_T71]
      have hsz := ha _ hmem
      have hless : atLess l nm h = decide (cmpB (foldB (rd_T71 l (h : Int)).f0) nm < 0) := by unfold atLess; rw [hrd]
      generalize rd_T71 l (h : Int) = t at *
      obtain ⟨f, rfl⟩ : ∃ g, f = g + 1 := ⟨f - 1, by omega⟩
      have hstep := HB.out
      simp only [bsGo, hlt, if_true, ← hh, hless] at hstep
      have HS := Lib.hid hstep; clear hstep hless hrd hh h3 h2 hmem
      go_wp2_with fail
      refine (place_1 t.f0 _ nm _ hsz).mono ?_; rintro e W ⟨rfl, hW1⟩
      have hW2 : Below w.heap.size w W := hW.trans (hW1.mono hW.size)
      have HW := Lib.hid hW2; clear hW2 hW1 hW h0 h1
      by_cases hc : cmpB (foldB t.f0) nm < 0
      · have hs := HS.out
        rw [if_pos (by simpa using hc)] at hs
        have HS1 := Lib.hid hs; clear hs
        go_wp2
        go_roundw
        case rel => exact ⟨f, h + 1, j, by omega, by omega, by omega, HS1.out, by go_num, rfl, HW.out⟩
        case measure => simp [intOf]; omega
      · have hs := HS.out
        rw [if_neg (by simpa using hc)] at hs
        have HS1 := Lib.hid hs; clear hs
        go_wp2
        go_roundw
        case rel => exact ⟨f, i, h, by omega, by omega, by omega, HS1.out, rfl, rfl, HW.out⟩
        case measure => simp [intOf]; omega
    · obtain rfl : i = j := by omega
      have hpl : atPlace l nm = i := by rw [← HB.out, bsGo_end]
      have HP := Lib.hid hpl; clear hpl
      by_cases hn : i < l.length
      · obtain ⟨ad, A1, c1, rfl, h0, h1, h2, h3⟩ := at_T71 (Kd.C_below hr hW) (i : Int) (by omega) (by omega)
        rw [Int.toNat_natCast] at h0 h1
        have hmem : rd_T71 l (i : Int) ∈ l := by
          simp [rd_T71, List.getD_eq_getElem?_getD, List.getElem?_eq_getElem hn]
        have hrd : l.getD i PTruthCovers.z71 = rd_T71 l (i : Int) := by simp [rd_T71]
        have hsz := ha _ hmem
        have hth : atThere l nm = (cmpB (foldB (rd_T71 l (i : Int)).f0) nm == 0) := by unfold atThere; rw [HP.out, hrd]; simp [hn]
        generalize rd_T71 l (i : Int) = t at *
        have HT := Lib.hid hth; clear hth hrd hmem h2 h3
        go_wp2_with fail
        refine (place_1 t.f0 _ nm _ hsz).mono ?_; rintro e W ⟨rfl, hW1⟩
        have hW2 : Below w.heap.size w W := hW.trans (hW1.mono hW.size)
        have HW := Lib.hid hW2; clear hW2 hW1 hW h0 h1
        go_wp2
        go_ret2
        exact ⟨by rw [HT.out, HP.out]; rfl, HW.out⟩
      · have hth : atThere l nm = false := by unfold atThere; rw [HP.out]; simp; intro h; exact absurd h (by omega)
        have HT := Lib.hid hth; clear hth
        have HW := Lib.hid hW; clear hW
        go_wp2
        go_ret2
        exact ⟨by rw [HT.out, HP.out]; rfl, HW.out⟩

set_option maxHeartbeats 1000000 in
theorem entry_place (A : Option Addr) (c : Nat) (l : List S71) (nm : ByteArray) (w : World) (hl : l.length ≤ 140737488351232) (hr : k71.C w A l.length l)
    (ha : ∀ t ∈ l, t.f0.size ≤ 140737488351232) (hn : nm.size ≤ 140737488351232) :
    Calls Tryz.prog 67 #[.slice A l.length c, .string nm] w fun e w' => e = .returned (.tuple #[.int .i64 (atPlace l (foldB nm) : Nat), .bool (atThere l (foldB nm))]) ∧ Below w.heap.size w w' := by
  go_enter Tryz.func67, Tryz.ntmps67
  go_wp2_with fail
  refine (octet_Fold nm _ hn).mono ?_; rintro e W ⟨rfl, hW⟩
  go_wp2_with fail
  refine (binarySearch_A A c l (foldB nm) _ hl (Kd.C_below hr hW) ha).mono ?_; rintro e W1 ⟨rfl, hW1⟩
  have hW2 : Below w.heap.size w W1 := hW.trans (hW1.mono hW.size)
  have HW := Lib.hid hW2; clear hW2 hW1 hW
  go_wp2
  go_ret2
  exact ⟨rfl, HW.out⟩

theorem clone_S (A : Option Addr) (c : Nat) (l : List ByteArray) (w : World) (hl : l.length ≤ 8796093022200) (hr : Kd.string.C w A l.length l) :
    Calls Tryz.prog 68 #[.slice A l.length c] w fun e w' => ∃ v, e = .returned v ∧ Kd.string.R 9 w' w.heap.size (fun _ => True) v l ∧ Below w.heap.size w w' := by
  cases A with
  | none =>
    have h0 : l = [] := by
      rcases Nat.eq_zero_or_pos l.length with h | h
      · exact List.eq_nil_of_length_eq_zero h
      · obtain ⟨ad, e, _⟩ := hr.2.2 h; cases e
    subst h0
    refine (Tryz.slices_Clone_nil_f68 _ _ w).mono ?_
    rintro e w' ⟨rfl, rfl⟩
    exact ⟨_, rfl, Kd.R_nil _ _ _ _ _, Below.refl _ _⟩
  | some ad =>
    have hq := fun (W : World) => Lib.run_eql_slice_nil (P := Tryz.prog) W 48 9 (some ad) l.length c 0 0 Tryz.underlying48
    go_enter Tryz.func68, Tryz.ntmps68
    go_wp2_with ((at_builtin; refine Kd.R_append_row Value.string ByteArray.empty (h1 := fun _ => rfl) (w0 := w) w.heap.size rfl (.tmp 5) (.tmp 6) 48 9 (.string ⟨#[]⟩) 16 rfl Tryz.underlying48 info9 rfl (by decide) _ [] l (some ad) l.length c (fun _ => True) rfl rfl (fun _ _ => trivial) ?O ?R ?B ?S ?L ?_; (case O => exact Kd.R_of_own (own_lit_of w w.heap.size 9 [] (Nat.le_refl _) (by simp)) (fun _ _ => trivial)); (case R => exact Kd.C_alloc hr _); (case B => exact (Below.refl _ _).alloc (Nat.le_refl _) _); (case S => simp); (case L => simp only [List.length_nil]; omega); intro v1 w1 ho hb hg hat; clear hg hat; have HO := Lib.hid ho; have HB := Lib.hid hb; clear ho hb))
    go_ret
    exact ⟨_, rfl, HO.out, HB.out⟩
end Go.Proofs.YtfdmmnajaebfeaaGreatDoor
