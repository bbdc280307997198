/- Proved here: law21.of answers what truth's Of answers of the small entry. -/
import Derived.Test.YtfdmmnajaebfeaaGreatDoorB7
import Derived.Test.YtfdmmnajaebfeaaGreatDoorB1
set_option linter.unusedVariables false
set_option linter.unusedSimpArgs false
set_option maxRecDepth 100000
namespace Go.Proofs.YtfdmmnajaebfeaaGreatDoor
open Go.RowKit Go.Proofs.YtfdmmnajaebfeaaGreatDoorW.PrintWords Go.Proofs.YtfdmmnajaebfeaaGreatDoorW.PrintLast Go.Proofs.YtfdmmnajaebfeaaGreatDoorW.PrintMore
open PTruthCovers (S82 S71 S36 S143 S113 S228 k82 k71 k36 k143 k113 k228 IsS177)

/-- The small entry: cn: a -/
def cnA : List S71 := [⟨⟨#[99, 110]⟩, [⟨#[97]⟩]⟩]
theorem cnA_at {W : World} {ga ge : Nat} (ha : W.heap[ga]? = some (.cells #[.string ⟨#[97]⟩] 9 (0, 0))) (he : W.heap[ge]? = some (.cells #[.string ⟨#[99, 110]⟩, .slice (some ⟨ga, 0, none⟩) 1 1] 71 (0, 0))) : Kd.C k71 W (some ⟨ge, 0, none⟩) 1 cnA := by
  have a0 : W.cell? ⟨ga, 0, none⟩ = some (.string ⟨#[97]⟩) := (blk_cell ha 0).trans rfl
  have e0 : W.cell? ⟨ge, 0, none⟩ = some (.string ⟨#[99, 110]⟩) := (blk_cell he 0).trans rfl
  have e1 : W.cell? ⟨ge, 1, none⟩ = some (.slice (some ⟨ga, 0, none⟩) 1 1) := (blk_cell he 1).trans rfl
  refine ⟨rfl, by decide, fun _ => ⟨⟨ge, 0, none⟩, rfl, fun j p hj => ?_⟩⟩
  have hj0 : j = 0 := by
    have := (List.getElem?_eq_some_iff.1 hj).1
    simp [cnA] at this
    omega
  subst hj0
  have hp : p = ⟨⟨#[99, 110]⟩, [⟨#[97]⟩]⟩ := by simpa [cnA] using hj.symm
  subst hp
  refine ⟨[.string ⟨#[99, 110]⟩, .slice (some ⟨ga, 0, none⟩) 1 1], rfl, PTruthCovers.k71_mk W ⟨⟨#[99, 110]⟩, [⟨#[97]⟩]⟩ (Nat.le_refl _) ?_, ?_⟩
  · refine ⟨rfl, by decide, fun _ => ⟨⟨ga, 0, none⟩, rfl, fun j p hj => ?_⟩⟩
    have hj0 : j = 0 := by
      have := (List.getElem?_eq_some_iff.1 hj).1
      simp at this
      omega
    subst hj0
    have hp : p = ⟨#[97]⟩ := by simpa using hj.symm
    subst hp
    refine ⟨[.string ⟨#[97]⟩], rfl, rfl, ?_⟩
    intro i u hi
    have hi0 : i = 0 := by
      have := (List.getElem?_eq_some_iff.1 hi).1
      simp at this
      omega
    subst hi0
    simp at hi
    subst hi
    simpa [Addr.add] using a0
  · intro i u hi
    have hi2 : i < 2 := by have := (List.getElem?_eq_some_iff.1 hi).1; simpa using this
    have h01 : i = 0 ∨ i = 1 := by omega
    rcases h01 with rfl | rfl
    · simp at hi
      subst hi
      simpa [Addr.add] using e0
    · simp at hi
      subst hi
      simpa [Addr.add] using e1

/-- What Of must answer, of this filter and the small entry. -/
def OfAt (w : World) (k : Int) (a b : ByteArray) (cnt : Nat) (xs : List Value) (r : Int) : Prop :=
  ∀ (W : World) (A1 A2 Ae A : Option Addr) (c1 c2 ce c B : Nat), Below w.heap.size w W → Kd.C k82 W A1 18 coreTypes → Kd.C k71 W Ae 1 cnA → W.ownsRow B 36 5 (.slice A cnt c) cnt xs →
    Calls Tryz.prog 16 #[.agg #[.slice A1 18 c1, .slice A2 9 c2], .agg #[.int .i64 k, .string a, .string b, .slice none 0 0, .slice A cnt c], .slice Ae 1 ce] W fun e w' => e = .returned (.int .i64 r) ∧ Below W.heap.size W w'

set_option maxHeartbeats 2000000 in
theorem law21_of (T : ByteArray) (hT : T.size ≤ 4096) (k : Int) (a b : ByteArray) (m : Int) (cnt : Nat) (xs : List Value) (hF : WholeF T k a b m cnt xs) (r : Int) (w : World) (hO : OfAt w k a b cnt xs r) :
    Calls Tryz.prog 28 #[.string T] w fun e w' => e = .returned (.int .i64 r) ∧ Below w.heap.size w w' := by
  have HOF := Lib.hid hO; clear hO
  go_enter Tryz.func28, Tryz.ntmps28
  go_wp2_with fail
  refine (parse_at T hT k a b m cnt xs hF w).mono ?_
  clear hF
  rintro e W1 ⟨vK, rfl, hB1, B, hB, hO⟩
  obtain ⟨A, c, rfl⟩ := own_slice hO
  have HO := Lib.hid hO
  have HB1 := Lib.hid hB1
  clear hO hB1 hB
  go_wp2_with fail
  obtain ⟨gf, hgf⟩ : ∃ gf, gf = W1.heap.size := ⟨_, rfl⟩
  have hF2 := heap_alloc_new W1 (Obj.cells #[Value.int IntKind.i64 k, Value.string a, Value.string b, Value.slice none 0 0, Value.slice A cnt c] 36)
  have hB2 := below_alloc HB1.out (Obj.cells #[Value.int IntKind.i64 k, Value.string a, Value.string b, Value.slice none 0 0, Value.slice A cnt c] 36)
  have hO2 := HO.out.alloc (Obj.cells #[Value.int IntKind.i64 k, Value.string a, Value.string b, Value.slice none 0 0, Value.slice A cnt c] 36)
  rw [← hgf] at hF2 ⊢
  generalize W1.alloc (Obj.cells #[Value.int IntKind.i64 k, Value.string a, Value.string b, Value.slice none 0 0, Value.slice A cnt c] 36) = W2 at *
  obtain ⟨f0, f1, f2, f3, f4, ff0, ff1, ff2, ff3, ff4, fl⟩ := facts36 hF2
  have HF2 := Lib.hid hF2
  have HB2 := Lib.hid hB2
  have HO2 := Lib.hid hO2
  clear hF2 hB2 hO2 HO HB1 hgf
  go_region_held3 (fun w' => w'.cell? ⟨gf, 0, none⟩ = some (.int .i64 k) ∧ w'.cell? ⟨gf, 1, none⟩ = some (.string a) ∧ w'.cell? ⟨gf, 2, none⟩ = some (.string b) ∧ w'.cell? ⟨gf, 3, none⟩ = some (.slice none 0 0) ∧ w'.cell? ⟨gf, 4, none⟩ = some (.slice A cnt c)) (go_keep) (first | (go_at_call 25; refine (core_25 _).mono ?_; rintro e W3 ⟨A1, c1, A2, c2, rfl, hC1, hC2, hl1, hl2, hB3⟩; have hB23 : Below W2.heap.size W2 W3 := (by repeat (first | exact Below.refl _ _ | refine below_alloc ?_ _ | refine Below.drew ?_) : Below W2.heap.size W2 _).trans (hB3.mono (by simp <;> omega)); have hF3 := (hB23.block _ (blk_lt HF2.out)).trans HF2.out; (obtain ⟨g0, g1, g2, g3, g4, gg0, gg1, gg2, gg3, gg4, gl⟩ := facts36 hF3); have HB3 := Lib.hid (HB2.out.trans (hB23.mono HB2.out.size)); have HO3 := Lib.hid (pw_own_below HO2.out hB23); have HC1 := Lib.hid hC1; (first | (have hx : Below W2.drew.heap.size W2.drew W3 := (by with_reducible exact hB3); have ORD1 := Lib.hid hx; clear hx) | (have hx : Below (W2.alloc (Obj.cells #[Value.string ⟨#[97]⟩] 9)).drew.heap.size (W2.alloc (Obj.cells #[Value.string ⟨#[97]⟩] 9)).drew W3 := (by with_reducible exact hB3); have ORD2 := Lib.hid hx; clear hx) | (have ORD3 := Lib.hid hB3)); clear hB23 hF3 hC1 hC2 hB3 hl1 hl2) | (have hguard := ORD1; go_at_call 16; have hbY := below_alloc (below_alloc (Below.refl W3.heap.size W3) (Obj.cells #[Value.string ⟨#[97]⟩] 9)) (Obj.cells #[Value.string ⟨#[99, 110]⟩, Value.slice (some ⟨W3.heap.size, 0, none⟩) 1 1] 71); refine (HOF.out _ A1 A2 _ A c1 c2 _ c B (HB3.out.trans (hbY.mono HB3.out.size)) (Kd.C_below HC1.out hbY) (cnA_at (ga := W3.heap.size) (ge := W3.heap.size + 1) ?ha ?he) (pw_own_below HO3.out hbY)).mono ?_; (case ha => exact (Below.heap_alloc _ _ _ (by simp)).trans (heap_alloc_new _ _)); (case he => have h := heap_alloc_new (W3.alloc (Obj.cells #[Value.string ⟨#[97]⟩] 9)) (Obj.cells #[Value.string ⟨#[99, 110]⟩, Value.slice (some ⟨W3.heap.size, 0, none⟩) 1 1] 71); simpa using h); rintro e W4 ⟨rfl, hW4⟩; have hb4 : Below W3.heap.size W3 W4 := hbY.trans (hW4.mono (by simp <;> omega)); have HB4 := Lib.hid (HB3.out.trans (hb4.mono HB3.out.size)); have q0 := cell_later hb4 g0; have q1 := cell_later hb4 g1; have q2 := cell_later hb4 g2; have q3 := cell_later hb4 g3; have q4 := cell_later hb4 g4; clear hb4 hW4 hbY) | (have hguard := ORD2; go_at_call 16; have hbY := below_alloc (Below.refl W3.heap.size W3) (Obj.cells #[Value.string ⟨#[99, 110]⟩, Value.slice (some ⟨W2.heap.size, 0, none⟩) 1 1] 71); have hzz : W2.heap.size < W3.heap.size := (by have := ORD2.out.size; simp at this; omega); have ha3 : W3.heap[W2.heap.size]? = some (.cells #[.string ⟨#[97]⟩] 9 (0, 0)) := (ORD2.out.block _ (by simp)).trans (heap_alloc_new W2 _); refine (HOF.out _ A1 A2 _ A c1 c2 _ c B (HB3.out.trans (hbY.mono HB3.out.size)) (Kd.C_below HC1.out hbY) (cnA_at (ga := W2.heap.size) (ge := W3.heap.size) ?ha ?he) (pw_own_below HO3.out hbY)).mono ?_; (case ha => exact (hbY.block _ hzz).trans ha3); (case he => exact heap_alloc_new _ _); rintro e W4 ⟨rfl, hW4⟩; have hb4 : Below W3.heap.size W3 W4 := hbY.trans (hW4.mono (by simp)); have HB4 := Lib.hid (HB3.out.trans (hb4.mono HB3.out.size)); have q0 := cell_later hb4 g0; have q1 := cell_later hb4 g1; have q2 := cell_later hb4 g2; have q3 := cell_later hb4 g3; have q4 := cell_later hb4 g4; clear hb4 hW4 hbY) | (have hguard := ORD3; go_at_call 16; have hx3 : Below (((W2.alloc (Obj.cells #[Value.string ⟨#[97]⟩] 9)).alloc (Obj.cells #[Value.string ⟨#[99, 110]⟩, Value.slice (some ⟨W2.heap.size, 0, none⟩) 1 1] 71)).drew).heap.size ((W2.alloc (Obj.cells #[Value.string ⟨#[97]⟩] 9)).alloc (Obj.cells #[Value.string ⟨#[99, 110]⟩, Value.slice (some ⟨W2.heap.size, 0, none⟩) 1 1] 71)).drew W3 := (by with_reducible exact ORD3.out); have ha3 : W3.heap[W2.heap.size]? = some (.cells #[.string ⟨#[97]⟩] 9 (0, 0)) := (hx3.block _ (by simp <;> omega)).trans ((Below.heap_alloc _ _ _ (by simp)).trans (heap_alloc_new W2 _)); have he3 : W3.heap[W2.heap.size + 1]? = some (.cells #[.string ⟨#[99, 110]⟩, .slice (some ⟨W2.heap.size, 0, none⟩) 1 1] 71 (0, 0)) := (hx3.block _ (by simp)).trans (by have h := heap_alloc_new (W2.alloc (Obj.cells #[Value.string ⟨#[97]⟩] 9)) (Obj.cells #[Value.string ⟨#[99, 110]⟩, Value.slice (some ⟨W2.heap.size, 0, none⟩) 1 1] 71); rw [show (W2.alloc (Obj.cells #[Value.string ⟨#[97]⟩] 9)).heap.size = W2.heap.size + 1 from by simp] at h; exact h); refine (HOF.out _ A1 A2 _ A c1 c2 _ c B HB3.out HC1.out (cnA_at ha3 he3) HO3.out).mono ?_; clear hx3 ha3 he3; rintro e W4 ⟨rfl, hW4⟩; have hb4 : Below W3.heap.size W3 W4 := hW4; have HB4 := Lib.hid (HB3.out.trans (hb4.mono HB3.out.size)); have q0 := cell_later hb4 g0; have q1 := cell_later hb4 g1; have q2 := cell_later hb4 g2; have q3 := cell_later hb4 g3; have q4 := cell_later hb4 g4; clear hb4 hW4))
  all_goals
    go_wp2
    go_ret
    exact ⟨rfl, HB4.out⟩
end Go.Proofs.YtfdmmnajaebfeaaGreatDoor
