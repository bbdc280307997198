/- Proved here: awake answers true, in every world where utf8's two tables lie as laid. -/
import Derived.Test.YtfdmmnajaebfeaaGreatDoorC2
set_option linter.unusedVariables false
set_option linter.unusedSimpArgs false
set_option maxRecDepth 100000
namespace Go.Proofs.YtfdmmnajaebfeaaGreatDoor
open Go.RowKit Go.Proofs.YtfdmmnajaebfeaaGreatDoorW.PrintWords Go.Proofs.YtfdmmnajaebfeaaGreatDoorW.PrintLast Go.Proofs.YtfdmmnajaebfeaaGreatDoorW.PrintMore
open PTruthCovers (S82 S71 S36 S143 S113 S228 k82 k71 k36 k143 k113 k228 IsS177)

theorem whole_A : WholeF (⟨#[40, 99, 110, 61, 65, 41]⟩ : ByteArray) 3 ⟨#[99, 110]⟩ ⟨#[65]⟩ 1 0 [] := fun w0 w g hR =>
  ((filter_leaf w0 g (⟨#[40, 99, 110, 61, 65, 41]⟩ : ByteArray) 0 1 6 0 1 1 3 ⟨#[99, 110]⟩ ⟨#[65]⟩ ⟨by decide, by decide⟩ rfl ⟨by decide, by decide⟩ (isF_yes (by decide) (by decide) (by decide) (by unfold wrap64; omega)) (isF_no (by decide) (by decide) (by decide)) (isF_no (by decide) (by decide) (by decide)) (isF_no (by decide) (by decide) (by decide)) (fun w h => item_A w0 w g 1 h)) w hR).mono fun e w' ⟨h1, h2⟩ => ⟨_, h1, h2, _, Nat.le_refl _, own_nil _ _ _ _⟩
theorem whole_B : WholeF (⟨#[40, 115, 110, 61, 120, 41]⟩ : ByteArray) 3 ⟨#[115, 110]⟩ ⟨#[120]⟩ 1 0 [] := fun w0 w g hR =>
  ((filter_leaf w0 g (⟨#[40, 115, 110, 61, 120, 41]⟩ : ByteArray) 0 1 6 0 1 1 3 ⟨#[115, 110]⟩ ⟨#[120]⟩ ⟨by decide, by decide⟩ rfl ⟨by decide, by decide⟩ (isF_yes (by decide) (by decide) (by decide) (by unfold wrap64; omega)) (isF_no (by decide) (by decide) (by decide)) (isF_no (by decide) (by decide) (by decide)) (isF_no (by decide) (by decide) (by decide)) (fun w h => item_B w0 w g 1 h)) w hR).mono fun e w' ⟨h1, h2⟩ => ⟨_, h1, h2, _, Nat.le_refl _, own_nil _ _ _ _⟩
theorem whole_C : WholeF (⟨#[40, 122, 122, 61, 120, 41]⟩ : ByteArray) 3 ⟨#[122, 122]⟩ ⟨#[120]⟩ 1 0 [] := fun w0 w g hR =>
  ((filter_leaf w0 g (⟨#[40, 122, 122, 61, 120, 41]⟩ : ByteArray) 0 1 6 0 1 1 3 ⟨#[122, 122]⟩ ⟨#[120]⟩ ⟨by decide, by decide⟩ rfl ⟨by decide, by decide⟩ (isF_yes (by decide) (by decide) (by decide) (by unfold wrap64; omega)) (isF_no (by decide) (by decide) (by decide)) (isF_no (by decide) (by decide) (by decide)) (isF_no (by decide) (by decide) (by decide)) (fun w h => item_C w0 w g 1 h)) w hR).mono fun e w' ⟨h1, h2⟩ => ⟨_, h1, h2, _, Nat.le_refl _, own_nil _ _ _ _⟩
theorem whole_D : WholeF (⟨#[40, 33, 40, 122, 122, 61, 120, 41, 41]⟩ : ByteArray) 2 ⟨#[]⟩ ⟨#[]⟩ 2 1 [.int .i64 3, .string ⟨#[122, 122]⟩, .string ⟨#[120]⟩, .slice none 0 0, .slice none 0 0] := fun w0 w g hR =>
  filter_not w0 g (⟨#[40, 33, 40, 122, 122, 61, 120, 41, 41]⟩ : ByteArray) 0 1 2 8 9 0 1 2 1 3 ⟨#[122, 122]⟩ ⟨#[120]⟩ ⟨by decide, by decide⟩ rfl ⟨by decide, by decide⟩ (isF_yes (by decide) (by decide) (by decide) (by unfold wrap64; omega)) (isF_no (by decide) (by decide) (by decide)) (isF_no (by decide) (by decide) (by decide)) (isF_yes (by decide) (by decide) (by decide) (by unfold wrap64; omega))
    (filter_leaf w0 g (⟨#[40, 33, 40, 122, 122, 61, 120, 41, 41]⟩ : ByteArray) 2 3 8 1 2 2 3 ⟨#[122, 122]⟩ ⟨#[120]⟩ ⟨by decide, by decide⟩ rfl ⟨by decide, by decide⟩ (isF_yes (by decide) (by decide) (by decide) (by unfold wrap64; omega)) (isF_no (by decide) (by decide) (by decide)) (isF_no (by decide) (by decide) (by decide)) (isF_no (by decide) (by decide) (by decide)) (fun w h => item_D w0 w g 2 h)) (isF_yes (by decide) (by decide) (by decide) (by unfold wrap64; omega)) w hR
theorem whole_E : WholeF (⟨#[40, 124, 40, 122, 122, 61, 120, 41, 40, 99, 110, 61, 97, 41, 41]⟩ : ByteArray) 1 ⟨#[]⟩ ⟨#[]⟩ 3 2 ([.int .i64 3, .string ⟨#[122, 122]⟩, .string ⟨#[120]⟩, .slice none 0 0, .slice none 0 0] ++ [.int .i64 3, .string ⟨#[99, 110]⟩, .string ⟨#[97]⟩, .slice none 0 0, .slice none 0 0]) := fun w0 w g hR =>
  filter_or w0 g 0 1 2 3 1 3 3 ⟨#[122, 122]⟩ ⟨#[120]⟩ ⟨#[99, 110]⟩ ⟨#[97]⟩ ⟨by decide, by decide⟩ rfl ⟨by decide, by decide⟩
    (filter_leaf w0 g (⟨#[40, 124, 40, 122, 122, 61, 120, 41, 40, 99, 110, 61, 97, 41, 41]⟩ : ByteArray) 2 3 8 1 2 2 3 ⟨#[122, 122]⟩ ⟨#[120]⟩ ⟨by decide, by decide⟩ rfl ⟨by decide, by decide⟩ (isF_yes (by decide) (by decide) (by decide) (by unfold wrap64; omega)) (isF_no (by decide) (by decide) (by decide)) (isF_no (by decide) (by decide) (by decide)) (isF_no (by decide) (by decide) (by decide)) (fun w h => item_E w0 w g 2 h))
    (filter_leaf w0 g (⟨#[40, 124, 40, 122, 122, 61, 120, 41, 40, 99, 110, 61, 97, 41, 41]⟩ : ByteArray) 8 9 14 2 3 2 3 ⟨#[99, 110]⟩ ⟨#[97]⟩ ⟨by decide, by decide⟩ rfl ⟨by decide, by decide⟩ (isF_yes (by decide) (by decide) (by decide) (by unfold wrap64; omega)) (isF_no (by decide) (by decide) (by decide)) (isF_no (by decide) (by decide) (by decide)) (isF_no (by decide) (by decide) (by decide)) (fun w h => item_F w0 w g 3 h)) w hR

set_option maxHeartbeats 4000000 in
theorem law21_awake (w : World) (hT : Lib.Utf8Tabs 0 1 w) (h2 : 2 ≤ w.heap.size) :
    Calls Tryz.prog 8 #[] w fun e w' => e = .returned (.bool true) ∧ Below w.heap.size w w' := by
  have HT := Lib.hid hT; clear hT
  go_enter Tryz.func8, Tryz.ntmps8
  go_wp2_with fail
  refine (law21_of _ (by decide) _ _ _ _ _ _ whole_A 1 w (of_cn HT.out h2 _ (by decide) _ eq_cn)).mono ?_
  rintro e W1 ⟨rfl, hW1⟩
  have HW1 := Lib.hid hW1; clear hW1
  go_wp2_with fail
  refine (law21_of _ (by decide) _ _ _ _ _ _ whole_B 0 W1 (of_sn (tabs_later HT.out h2 HW1.out) (Nat.le_trans h2 HW1.out.size))).mono ?_
  rintro e W2 ⟨rfl, hW2⟩
  have HW2 := Lib.hid (HW1.out.trans (hW2.mono HW1.out.size)); clear hW2
  go_wp2_with fail
  refine (law21_of _ (by decide) _ _ _ _ _ _ whole_C 2 W2 of_zz).mono ?_
  rintro e W3 ⟨rfl, hW3⟩
  have HW3 := Lib.hid (HW2.out.trans (hW3.mono HW2.out.size)); clear hW3
  go_wp2_with fail
  refine (law21_of _ (by decide) _ _ _ _ _ _ whole_D 2 W3 of_not).mono ?_
  rintro e W4 ⟨rfl, hW4⟩
  have HW4 := Lib.hid (HW3.out.trans (hW4.mono HW3.out.size)); clear hW4
  go_wp2_with fail
  refine (law21_of _ (by decide) _ _ _ _ _ _ whole_E 1 W4 (of_or (tabs_later HT.out h2 HW4.out) (Nat.le_trans h2 HW4.out.size))).mono ?_
  rintro e W5 ⟨rfl, hW5⟩
  have HW5 := Lib.hid (HW4.out.trans (hW5.mono HW4.out.size)); clear hW5
  go_wp2
  go_ret
  exact ⟨rfl, HW5.out⟩
end Go.Proofs.YtfdmmnajaebfeaaGreatDoor
