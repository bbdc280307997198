/- THE LAW TruthTables OF EVERY LIST AND EVERY WORD: the row, and its card: a walk's contract (C4) met with what the row's list of variables gives. -/
import Derived.Test.YtfdmmnajaebfeaaGreatDoorCards
import Derived.Test.YtfdmmnajaebfeaaGreatDoorTie
import Derived.Test.YtfdmmnajaebfeaaGreatDoorC4
import Derived.WalkKit
import Derived.ProofKit
import Derived.OpenShut
import Derived.Carry
import Derived.Deep.DeepHandedRow
import Derived.Deep.DeepWitnessRowRef
import Derived.Lib.LaidIn
import Derived.Lib.LaidU8T
namespace Go.Proofs.YtfdmmnajaebfeaaGreatDoor.truthTables
open Go.ChangeShapes Go.WideShapes Go.ChangeAt Go.RowKit Go.Shelf Go.Lib Go.Proofs.YtfdmmnajaebfeaaGreatDoorW.PrintWords

theorem own : ownKnob Tryz.prog.godebug = none := by kernel_rfl
theorem laidOut' : laidOutB Tryz.prog = true := by kernel_rfl

theorem first_same : Rows.laid_unicode_utf8_first = firstData := by kernel_rfl
theorem accept_same : (Rows.laid_unicode_utf8_acceptRanges : DataW Unit) = acceptData := by kernel_rfl

theorem tabs {W : World} (h : laidMetH Tryz.prog Rows.truthTablesRow.laid W) : Lib.Utf8Tabs 0 1 W := by
  have hL : laidMet Tryz.prog Rows.truthTablesRow.laid W := h
  exact utf8Tabs_of_readsT (ρ := Tryz.laysValid_ren) (U8Types.of196 Tryz.laysValid) ⟨by kernel_rfl, by kernel_rfl, by kernel_rfl, by kernel_rfl, by kernel_rfl, by kernel_rfl, by kernel_rfl⟩ (first_same ▸ laidMet.reads hL (by simp [Rows.truthTablesRow])) (accept_same ▸ laidMet.reads hL (by simp [Rows.truthTablesRow]))
theorem two_blocks {W : World} (h : Lib.Utf8Tabs 0 1 W) : 2 ≤ W.heap.size :=
  World.block_lt_of_cell? W _ (h.2 0 (by decide)).1

theorem ints_read {W : World} {a : Addr} {len : Nat} {zs : List Int} (hl : len ≤ zs.length) (hm : len ≤ 9223372036854775807) (hc : ∀ i, i < zs.length → W.cell? (a.add i) = some (.int .i64 (zs.getD i 0))) : (Kd.int .i64).C W (some a) len (zs.take len) := by
  refine ⟨by simp; omega, hm, fun _ => ⟨a, rfl, fun j p hj => ?_⟩⟩
  have hlt := (List.getElem?_eq_some_iff.1 hj).1
  simp only [List.length_take] at hlt
  have hp : p = zs.getD j 0 := by
    rw [List.getElem?_take_of_lt (by omega)] at hj
    rw [List.getD_eq_getElem?_getD, hj]; rfl
  refine ⟨[.int .i64 p], rfl, rfl, fun i u hi => ?_⟩
  have hi0 : i = 0 := by
    have := (List.getElem?_eq_some_iff.1 hi).1
    simp at this
    omega
  subst hi0
  simp at hi
  subst hi
  rw [hp]
  have h0 := hc j (by omega)
  rw [show j * (Kd.int IntKind.i64).sz + 0 = j from by show j * 1 + 0 = j; omega]
  exact h0

theorem law_any (v0 : Value) (x : Int) (W : World) (hT : Lib.Utf8Tabs 0 1 W) (h : v0 = .slice none 0 0 ∨ ∃ a len cap l, v0 = .slice (some a) len cap ∧ l.length = len ∧ (Kd.int .i64).C W (some a) len l) :
    Calls Tryz.prog 3 #[v0, .int .i64 x] W fun e W' => e = .returned (.bool true) ∧ Below W.heap.size W W' := by
  rcases h with rfl | ⟨a, len, cap, l, rfl, hl, hC⟩
  · exact law_TruthTables none 0 [] x W hT (two_blocks hT) (Kd.C_nil _ _)
  · subst hl
    exact law_TruthTables (some a) cap l x W hT (two_blocks hT) hC

set_option maxRecDepth 100000 in
/-- WHAT THE WALK GIVES, FOR EVERY ARGUMENT. -/
theorem contract (H : Type) (enc : TypeId × Value → H) (W : World) (base : Nat) (args : Array Value) (ds gs : List (DataW H)) (before : List MemPlace)
    (hval : ∀ (j : Nat) t v, Tryz.f3.params[j]? = some t → args[j]? = some v → Value.okWide Tryz.prog W .any base t v)
    (hW : DataW.Whole enc Tryz.prog Tryz.f3.params.toList Rows.truthTablesSpec.vars false W args.toList ds gs before) (hL : laidMetH Tryz.prog Rows.truthTablesRow.laid W) :
    Calls Tryz.prog 3 args W fun e W' => ∃ v, e = .returned v ∧ Rows.truthTablesSpec.post enc Tryz.prog Tryz.f3 false true false false W args v W' := by
  have hW' := hW
  obtain ⟨p, q, hA0, hV, rfl, hfz, hnd⟩ := hW
  have hA : DataW.TrodAll enc Tryz.prog W 0 (fun _ => true) true Tryz.f3.params.toList args.toList ds p := hA0
  rw [Tryz.params3] at hA hval
  obtain ⟨v0, v1, d0, d1, p0, p1, rfl, rfl, rfl, h0, h1⟩ := trodAll_two hA
  obtain ⟨rfl, rfl⟩ := trodVars_none hV
  obtain ⟨x, rfl, rfl, rfl, wx⟩ := open_int Tryz.underlying3 (hval 1 3 v1 rfl rfl) h1
  obtain ⟨a0, len, cap, rfl⟩ := okWide_slice Tryz.underlying22 (hval 0 22 v0 rfl rfl)
  clear hA0
  simp only [List.append_nil] at hW'
  have hlt : ∀ x ∈ p0, x.block < W.heap.size := fun x hx => by simpa using hW'.lt x hx
  have hopen : (Value.slice a0 len cap = .slice none 0 0 ∨ ∃ a len' cap' l, Value.slice a0 len cap = .slice (some a) len' cap' ∧ l.length = len' ∧ (Kd.int .i64).C W (some a) len' l) := by
    obtain ⟨fuel, hf⟩ := h0
    rcases open_ints Tryz.underlying22 Tryz.underlying3 (by kernel_rfl) hf with ⟨hcs, _⟩ | ⟨a, len', cap', zs, hcs, _, hle, hm, hz, _, hcell, _⟩
    · left; simpa [Value.cells] using hcs
    · right
      have hv : Value.slice a0 len cap = .slice (some a) len' cap' := by simpa [Value.cells] using hcs
      have hzl : zs.length = cap' := by simpa using hz
      exact ⟨a, len', cap', zs.take len', hv, by rw [List.length_take]; omega, ints_read (by omega) (by simp only [maxLen] at hm; omega) hcell⟩
  refine (law_any _ x W (tabs hL) hopen).mono fun e W' ⟨he, bel⟩ => ?_
  subst he
  refine ⟨_, rfl, _, _, _, [], p0 ++ [], [], hW', ?_, ?_, rfl, bel.frame _, fun h => by cases h⟩
  · exact trodAll_cons_mk (shut_bool Tryz.underlying4 _) trodAll_mk0
  · exact trodAll_mk2 (Below.trod laidOut' (by kernel_rfl) (of_decide_eq_true (by kernel_rfl)) h0 bel hlt) (shut_int Tryz.underlying3 wx)
end Go.Proofs.YtfdmmnajaebfeaaGreatDoor.truthTables
