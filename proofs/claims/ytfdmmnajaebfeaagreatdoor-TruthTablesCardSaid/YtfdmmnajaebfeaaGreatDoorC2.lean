/- Proved here: truth's Of at the five filters of awake, where utf8's two tables lie as laid. -/
import Derived.Test.YtfdmmnajaebfeaaGreatDoorC1
import Derived.Test.YtfdmmnajaebfeaaGreatDoorB8
import Derived.Test.YtfdmmnajaebfeaaGreatDoorB9
import Derived.Test.YtfdmmnajaebfeaaGreatDoorB3B
import Derived.Test.YtfdmmnajaebfeaaGreatDoorB3C
import Derived.Test.YtfdmmnajaebfeaaGreatDoorB3D
import Derived.Test.YtfdmmnajaebfeaaGreatDoorB3E
import Derived.Test.YtfdmmnajaebfeaaGreatDoorB3F
set_option linter.unusedVariables false
set_option linter.unusedSimpArgs false
set_option maxRecDepth 100000
namespace Go.Proofs.YtfdmmnajaebfeaaGreatDoor
open Go.RowKit Go.Proofs.YtfdmmnajaebfeaaGreatDoorW.PrintWords Go.Proofs.YtfdmmnajaebfeaaGreatDoorW.PrintLast Go.Proofs.YtfdmmnajaebfeaaGreatDoorW.PrintMore
open PTruthCovers (S82 S71 S36 S143 S113 S228 k82 k71 k36 k143 k113 k228 IsS177)

theorem ty_cn : tyGet coreTypes ⟨#[99, 110]⟩ = (⟨⟨#[99, 110]⟩, 1, false, false⟩, true) := by kernel_rfl
theorem ty_sn : tyGet coreTypes ⟨#[115, 110]⟩ = (⟨⟨#[115, 110]⟩, 1, false, false⟩, true) := by kernel_rfl
theorem ty_zz : (tyGet coreTypes ⟨#[122, 122]⟩).2 = false := by kernel_rfl
theorem at_cn : atVals cnA ⟨#[99, 110]⟩ = [⟨#[97]⟩] := by kernel_rfl
theorem at_sn : atVals cnA ⟨#[115, 110]⟩ = [] := by kernel_rfl
theorem eq_cn : eqF norm1 ⟨#[65]⟩ [⟨#[97]⟩] = 1 := by kernel_rfl
theorem eq_ca : eqF norm1 ⟨#[97]⟩ [⟨#[97]⟩] = 1 := by kernel_rfl
theorem eq_sn : eqF norm1 ⟨#[120]⟩ [] = 0 := by kernel_rfl

theorem core_small : ∀ t ∈ coreTypes, t.f0.size ≤ 140737488351232 := by decide
theorem cnA_small : ∀ t ∈ cnA, t.f0.size ≤ 140737488351232 := by decide
theorem cnA_vals : ∀ t ∈ cnA, t.f1.length ≤ 8796093022200 := by decide
theorem norm_at {w : World} (hT : Lib.Utf8Tabs 0 1 w) (h2 : 2 ≤ w.heap.size) (v : ByteArray) (hv : v.size ≤ 140737488351232) : NormAt w 1 v (norm1 v) :=
  fun W hW => syntax_Norm1 v W (tabs_later hT h2 hW) (Nat.le_trans h2 hW.size) hv

theorem of_cn {w : World} (hT : Lib.Utf8Tabs 0 1 w) (h2 : 2 ≤ w.heap.size) (v : ByteArray) (hv : v.size ≤ 100) (r : Int) (hr : eqF norm1 v [⟨#[97]⟩] = r) : OfAt w 3 ⟨#[99, 110]⟩ v 0 [] r := by
  intro W A1 A2 Ae A c1 c2 ce c B hW hK hE hO
  have h := Of_eq A1 c1 coreTypes (.slice A2 9 c2) 3 ⟨#[99, 110]⟩ v (.slice none 0 0) (.slice A 0 c) Ae ce cnA W (by decide) hK core_small (by decide) (.inl rfl) _ ty_cn (by decide) hE cnA_small cnA_vals norm1 (fun u hu => by
    have hT' := tabs_later hT h2 hW
    have h2' := Nat.le_trans h2 hW.size
    rcases hu with rfl | hu
    · exact norm_at hT' h2' u (by omega)
    · rw [at_cn] at hu
      simp at hu
      subst hu
      exact norm_at hT' h2' _ (by decide))
  rw [at_cn, hr] at h
  exact h
theorem of_sn {w : World} (hT : Lib.Utf8Tabs 0 1 w) (h2 : 2 ≤ w.heap.size) : OfAt w 3 ⟨#[115, 110]⟩ ⟨#[120]⟩ 0 [] 0 := by
  intro W A1 A2 Ae A c1 c2 ce c B hW hK hE hO
  have h := Of_eq A1 c1 coreTypes (.slice A2 9 c2) 3 ⟨#[115, 110]⟩ ⟨#[120]⟩ (.slice none 0 0) (.slice A 0 c) Ae ce cnA W (by decide) hK core_small (by decide) (.inl rfl) _ ty_sn (by decide) hE cnA_small cnA_vals norm1 (fun u hu => by
    have hT' := tabs_later hT h2 hW
    have h2' := Nat.le_trans h2 hW.size
    rcases hu with rfl | hu
    · exact norm_at hT' h2' _ (by decide)
    · rw [at_sn] at hu
      simp at hu)
  rw [at_sn, eq_sn] at h
  exact h
theorem of_zz {w : World} : OfAt w 3 ⟨#[122, 122]⟩ ⟨#[120]⟩ 0 [] 2 := by
  intro W A1 A2 Ae A c1 c2 ce c B hW hK hE hO
  exact Of_none A1 c1 coreTypes (.slice A2 9 c2) 3 ⟨#[122, 122]⟩ ⟨#[120]⟩ (.slice none 0 0) (.slice A 0 c) (.slice Ae 1 ce) W (by decide) hK core_small (by decide) (Leaf.of (.inr (by decide))) ty_zz

theorem filters_own1 {w : World} {B : Nat} {A : Option Addr} {c : Nat} {k : Int} {a b : ByteArray} (h : w.ownsRow B 36 5 (.slice A 1 c) 1 [.int .i64 k, .string a, .string b, .slice none 0 0, .slice none 0 0]) :
    FiltersAt w (.slice A 1 c) 1 [.agg #[.int .i64 k, .string a, .string b, .slice none 0 0, .slice none 0 0]] := by
  have hc := own_cap h
  obtain ⟨g, cap, he, hgb, hgl⟩ := h.form (by decide)
  have hce : (Value.slice A 1 c).ownBlock = some g := by rw [he]; rfl
  have hx := h.cells hce
  injection he with he1 he2 he3
  subst he1
  refine ⟨rfl, _, _, rfl, hc, fun _ => ⟨_, rfl, fun i hi => ?_⟩⟩
  have hi0 : i = 0 := by omega
  subst hi0
  exact ⟨k, a, b, none, 0, 0, none, 0, 0, rfl, by simpa [Addr.add] using hx 0 _ rfl, by simpa [Addr.add] using hx 1 _ rfl, by simpa [Addr.add] using hx 2 _ rfl, by simpa [Addr.add] using hx 3 _ rfl, by simpa [Addr.add] using hx 4 _ rfl⟩
theorem filters_own2 {w : World} {B : Nat} {A : Option Addr} {c : Nat} {k k' : Int} {a b a' b' : ByteArray} (h : w.ownsRow B 36 5 (.slice A 2 c) 2 ([.int .i64 k, .string a, .string b, .slice none 0 0, .slice none 0 0] ++ [.int .i64 k', .string a', .string b', .slice none 0 0, .slice none 0 0])) :
    FiltersAt w (.slice A 2 c) 2 [.agg #[.int .i64 k, .string a, .string b, .slice none 0 0, .slice none 0 0], .agg #[.int .i64 k', .string a', .string b', .slice none 0 0, .slice none 0 0]] := by
  have hc := own_cap h
  obtain ⟨g, cap, he, hgb, hgl⟩ := h.form (by decide)
  have hce : (Value.slice A 2 c).ownBlock = some g := by rw [he]; rfl
  have hx := h.cells hce
  injection he with he1 he2 he3
  subst he1
  refine ⟨rfl, _, _, rfl, hc, fun _ => ⟨_, rfl, fun i hi => ?_⟩⟩
  have hi0 : i = 0 ∨ i = 1 := by omega
  rcases hi0 with rfl | rfl
  · exact ⟨k, a, b, none, 0, 0, none, 0, 0, rfl, by simpa [Addr.add] using hx 0 _ rfl, by simpa [Addr.add] using hx 1 _ rfl, by simpa [Addr.add] using hx 2 _ rfl, by simpa [Addr.add] using hx 3 _ rfl, by simpa [Addr.add] using hx 4 _ rfl⟩
  · exact ⟨k', a', b', none, 0, 0, none, 0, 0, rfl, by simpa [Addr.add] using hx 5 _ rfl, by simpa [Addr.add] using hx 6 _ rfl, by simpa [Addr.add] using hx 7 _ rfl, by simpa [Addr.add] using hx 8 _ rfl, by simpa [Addr.add] using hx 9 _ rfl⟩

theorem kid_at {w W : World} {k : Int} {a b : ByteArray} {r : Int} (h : OfAt w k a b 0 [] r) (hW : Below w.heap.size w W) {A1 A2 Ae : Option Addr} {c1 c2 ce : Nat} (hK : Kd.C k82 W A1 18 coreTypes) (hE : Kd.C k71 W Ae 1 cnA) :
    IntAt W 16 #[.agg #[.slice A1 18 c1, .slice A2 9 c2], .agg #[.int .i64 k, .string a, .string b, .slice none 0 0, .slice none 0 0], .slice Ae 1 ce] r :=
  fun W' hb => h W' A1 A2 Ae none c1 c2 ce 0 0 (hW.trans (hb.mono hW.size)) (Kd.C_below hK hb) (Kd.C_below hE hb) (own_nil _ _ _ _)
theorem of_not {w : World} : OfAt w 2 ⟨#[]⟩ ⟨#[]⟩ 1 [.int .i64 3, .string ⟨#[122, 122]⟩, .string ⟨#[120]⟩, .slice none 0 0, .slice none 0 0] 2 := by
  intro W A1 A2 Ae A c1 c2 ce c B hW hK hE hO
  exact Of_rec2 A1 18 c1 A2 9 c2 ⟨#[]⟩ ⟨#[]⟩ none 0 0 (.slice A 1 c) Ae 1 ce 1 [(.agg #[.int .i64 3, .string ⟨#[122, 122]⟩, .string ⟨#[120]⟩, .slice none 0 0, .slice none 0 0] : Value)] [2] W (by decide) rfl (filters_own1 hO) (fun i hi => by
    have hi0 : i = 0 := by omega
    subst hi0
    exact kid_at of_zz hW hK hE)
theorem of_or {w : World} (hT : Lib.Utf8Tabs 0 1 w) (h2 : 2 ≤ w.heap.size) : OfAt w 1 ⟨#[]⟩ ⟨#[]⟩ 2 ([.int .i64 3, .string ⟨#[122, 122]⟩, .string ⟨#[120]⟩, .slice none 0 0, .slice none 0 0] ++ [.int .i64 3, .string ⟨#[99, 110]⟩, .string ⟨#[97]⟩, .slice none 0 0, .slice none 0 0]) 1 := by
  intro W A1 A2 Ae A c1 c2 ce c B hW hK hE hO
  exact Of_rec1 A1 18 c1 A2 9 c2 ⟨#[]⟩ ⟨#[]⟩ none 0 0 (.slice A 2 c) Ae 1 ce 2 [(.agg #[.int .i64 3, .string ⟨#[122, 122]⟩, .string ⟨#[120]⟩, .slice none 0 0, .slice none 0 0] : Value), (.agg #[.int .i64 3, .string ⟨#[99, 110]⟩, .string ⟨#[97]⟩, .slice none 0 0, .slice none 0 0] : Value)] [2, 1] W (by decide) rfl (filters_own2 hO) (fun i hi => by
    have hi0 : i = 0 ∨ i = 1 := by omega
    rcases hi0 with rfl | rfl
    · exact kid_at of_zz hW hK hE
    · exact kid_at (of_cn hT h2 _ (by decide) _ eq_ca) hW hK hE)
end Go.Proofs.YtfdmmnajaebfeaaGreatDoor
