/- Proved here: truth's Of at a leaf and at And, under contracts of what it calls. -/
import Derived.Test.YtfdmmnajaebfeaaGreatDoorA6
import Derived.Test.YtfdmmnajaebfeaaGreatDoorA7
set_option linter.unusedVariables false
set_option linter.unusedSimpArgs false
set_option maxRecDepth 100000
namespace Go.Proofs.YtfdmmnajaebfeaaGreatDoor
open Go.RowKit Go.Proofs.YtfdmmnajaebfeaaGreatDoorW.PrintWords
open PTruthCovers (S82 S71 S36 S143 S113 S228 k82 k71 k36 k143 k113 k228 at_T82 at_T71 rd_T82 rd_T71)

/-- A variable's cells. -/
def CellsAt (w : World) (b : Nat) (cs : List Value) : Prop := b < w.heap.size ∧ ∀ j v, cs[j]? = some v → w.cell? ⟨b, j, none⟩ = some v
theorem CellsAt.later {w W : World} {b : Nat} {cs : List Value} (h : CellsAt w b cs) (hb : Below w.heap.size w W) : CellsAt W b cs :=
  ⟨Nat.lt_of_lt_of_le h.1 hb.size, fun j v hv => (hb.cell (p := ⟨b, j, none⟩) h.1).trans (h.2 j v hv)⟩
theorem CellsAt.new (w : World) (cs : Array Value) (t : TypeId) : CellsAt (w.alloc (.cells cs t)) w.heap.size cs.toList :=
  ⟨by simp, fun j v hv => by
    have h := heap_alloc_new w (.cells cs t)
    simp only [World.cell?, h]
    simpa using hv⟩
theorem below_alloc2 {w W : World} (h : Below w.heap.size w W) (o : Obj) : Below w.heap.size w (W.alloc o) := h.alloc h.size o
theorem below_alloc1 {w W : World} (h : Below w.heap.size w W) (o : Obj) : Below w.heap.size w (W.alloc o) := h.alloc h.size o
/-- no And, Or, Not -/
structure Leaf (k : Int) : Prop where
  b0 : (k == 0) = false
  b1 : (k == 1) = false
  b2 : (k == 2) = false
theorem Leaf.of {k : Int} (h : k < 0 ∨ 2 < k) : Leaf k := ⟨by simp; omega, by simp; omega, by simp; omega⟩

set_option maxHeartbeats 4000000 in
theorem Of_none (A : Option Addr) (c : Nat) (ts : List S82) (v2 : Value) (k : Int) (at_ val : ByteArray) (vP vK vA : Value) (w : World) (hl : ts.length ≤ 140737488351232) (hr : k82.C w A ts.length ts)
    (ha : ∀ t ∈ ts, t.f0.size ≤ 140737488351232) (hb : at_.size ≤ 140737488351232) (hk : Leaf k) (hn : (tyGet ts at_).2 = false) :
    Calls Tryz.prog 16 #[.agg #[.slice A ts.length c, v2], .agg #[.int .i64 k, .string at_, .string val, vP, vK], vA] w fun e w' => e = .returned (.int .i64 2) ∧ Below w.heap.size w w' := by
  obtain ⟨b0, b1, b2⟩ := hk
  have HN := Lib.hid hn; clear hn
  go_enter Tryz.func16, Tryz.ntmps16
  go_wp2_with fail
  have hB0 : Below w.heap.size w ((w.alloc (Obj.cells #[Value.slice A ts.length c, v2] 31)).alloc (Obj.cells #[Value.int IntKind.i64 k, Value.string at_, Value.string val, vP, vK] 36)) :=
    ((Below.refl _ _).alloc (Nat.le_refl _) _).alloc (by simp) _
  have hC := schema_Find A c ts v2 at_ _ hl (Kd.C_below hr hB0) ha hb
  refine hC.mono ?_
  clear hC
  rintro e W ⟨rfl, hW⟩
  obtain ⟨hc, hf⟩ := bcell hW
  have hz : w.heap.size + 1 < W.heap.size := by have := hW.size; simp at this; omega
  have HB := Lib.hid (hB0.trans (hW.mono hB0.size))
  clear hB0 hW
  rw [HN.out]
  generalize (tyGet ts at_).1 = t
  unfold tyV
  go_wp2
  go_ret
  exact ⟨rfl, by repeat (first | exact HB.out | refine Below.setCell ?_ (by show _ ≤ _; simp <;> omega) _ | refine Below.setCell ?_ (by show _ ≤ _; omega) _ | refine Below.alloc ?_ (by have := HB.out.size; simp <;> omega) _)⟩

/-- What layer 12's Norm does of one value, in every world behind w. -/
def NormAt (w : World) (syn : Int) (v : ByteArray) (r : ByteArray × Bool) : Prop :=
  ∀ W, Below w.heap.size w W → Calls Tryz.prog 35 #[.int .i64 syn, .string v] W fun e w' => e = .returned (.tuple #[.string r.1, .bool r.2]) ∧ Below W.heap.size W w'
theorem NormAt.later {w W : World} {syn : Int} {v : ByteArray} {r : ByteArray × Bool} (h : NormAt w syn v r) (hb : Below w.heap.size w W) : NormAt W syn v r :=
  fun W' h' => h W' (hb.trans (h'.mono hb.size))

set_option maxHeartbeats 2000000 in
theorem Of_1 (v n : ByteArray) (syn : Int) (r : ByteArray × Bool) (B C : Nat) (w : World) (hB : B < w.heap.size) (hC : C < w.heap.size) (h1 : w.cell? ⟨B, 1, none⟩ = some (.int .i64 syn)) (h2 : w.cell? ⟨C, 0, none⟩ = some (.string n)) (hN : NormAt w syn v r) :
    Calls Tryz.prog 38 #[.string v, .pointer (some ⟨B, 0, none⟩), .pointer (some ⟨C, 0, none⟩)] w fun e w' => e = .returned (.bool (r.2 && (r.1.toList == n.toList))) ∧ Below w.heap.size w w' := by
  have HN := Lib.hid hN; clear hN
  go_enter Tryz.func38, Tryz.ntmps38
  go_wp2_with fail
  refine (HN.out _ (Below.refl _ _)).mono ?_
  rintro e W ⟨rfl, hW⟩
  have h2' : W.cell? ⟨C, 0, none⟩ = some (.string n) := (hW.cell (p := ⟨C, 0, none⟩) hC).trans h2
  have HW := Lib.hid hW; clear hW h1 h2
  obtain ⟨m, ok⟩ := r
  cases ok
  · go_wp2
    go_ret
    exact ⟨ret_bool (by simp), HW.out⟩
  · go_wp2
    go_ret
    exact ⟨ret_bool (by simp), HW.out⟩

theorem atVals_mem {la : List S71} {nm : ByteArray} : atVals la nm = [] ∨ ∃ t ∈ la, atVals la nm = t.f1 := by
  unfold atVals
  split
  · rename_i h
    have hl := atThere_lt h
    refine .inr ⟨la[atPlace la (foldB nm)], List.getElem_mem hl, ?_⟩
    simp [List.getD_eq_getElem?_getD, List.getElem?_eq_getElem hl]
  · exact .inl rfl
theorem atVals_len {la : List S71} {nm : ByteArray} {B : Nat} (h : ∀ t ∈ la, t.f1.length ≤ B) : (atVals la nm).length ≤ B := by
  rcases atVals_mem (la := la) (nm := nm) with e | ⟨t, ht, e⟩
  · rw [e]; exact Nat.zero_le _
  · rw [e]; exact h t ht
/-- What is left for the two kinds of equality. -/
def eqF (N : ByteArray → ByteArray × Bool) (val : ByteArray) (l : List ByteArray) : Int :=
  if (N val).2 = false then 2 else if l.any (fun v => (N v).2 && ((N v).1.toList == (N val).1.toList)) = true then 1 else 0

set_option maxHeartbeats 8000000 in
theorem Of_eq (A : Option Addr) (c : Nat) (ts : List S82) (v2 : Value) (k : Int) (at_ val : ByteArray) (vP vK : Value) (Aa : Option Addr) (ca : Nat) (la : List S71) (w : World) (hl : ts.length ≤ 140737488351232) (hr : k82.C w A ts.length ts)
    (ha : ∀ t ∈ ts, t.f0.size ≤ 140737488351232) (hb : at_.size ≤ 140737488351232) (hk : k = 3 ∨ k = 8) (t : S82) (hn : tyGet ts at_ = (t, true))
    (hla : la.length ≤ 140737488351232) (hra : k71.C w Aa la.length la) (haa : ∀ t ∈ la, t.f0.size ≤ 140737488351232) (hav : ∀ t ∈ la, t.f1.length ≤ 8796093022200)
    (N : ByteArray → ByteArray × Bool) (hN : ∀ v, v = val ∨ v ∈ atVals la at_ → NormAt w t.f1 v (N v)) :
    Calls Tryz.prog 16 #[.agg #[.slice A ts.length c, v2], .agg #[.int .i64 k, .string at_, .string val, vP, vK], .slice Aa la.length ca] w fun e w' => e = .returned (.int .i64 (eqF N val (atVals la at_))) ∧ Below w.heap.size w w' := by
  obtain ⟨b0, b1, b2⟩ := Leaf.of (k := k) (by omega)
  have HT := Lib.hid hn; clear hn
  have HNN := Lib.hid hN; clear hN
  have g0 : ¬ k < 0 := by omega
  have g8 : ¬ 8 < k := by omega
  go_enter Tryz.func16, Tryz.ntmps16
  go_wp2_with fail
  have hB0 : Below w.heap.size w ((w.alloc (Obj.cells #[Value.slice A ts.length c, v2] 31)).alloc (Obj.cells #[Value.int IntKind.i64 k, Value.string at_, Value.string val, vP, vK] 36)) :=
    ((Below.refl _ _).alloc (Nat.le_refl _) _).alloc (by simp) _
  have hC := schema_Find A c ts v2 at_ _ hl (Kd.C_below hr hB0) ha hb
  refine hC.mono ?_
  clear hC
  rintro e W ⟨rfl, hW⟩
  obtain ⟨hc, hf⟩ := bcell hW
  have hz : w.heap.size + 1 < W.heap.size := by have := hW.size; simp at this; omega
  have HB := Lib.hid (hB0.trans (hW.mono hB0.size))
  rw [HT.out]
  unfold tyV
  have hF : CellsAt W (w.heap.size + 1) [.int .i64 k, .string at_, .string val, vP, vK] :=
    CellsAt.later (by have := CellsAt.new (w.alloc (Obj.cells #[Value.slice A ts.length c, v2] 31)) #[Value.int IntKind.i64 k, Value.string at_, Value.string val, vP, vK] 36; simpa using this) hW
  clear hB0 hW
  go_wp2_with fail
  have hB1 : Below W.heap.size W (W.alloc (Obj.cells #[Value.string t.f0, Value.int IntKind.i64 t.f1, Value.bool t.f2, Value.bool t.f3] 82)) := below_alloc1 (Below.refl _ _) _
  have hT := CellsAt.new W #[Value.string t.f0, Value.int IntKind.i64 t.f1, Value.bool t.f2, Value.bool t.f3] 82
  have hBW := HB.out
  have hC := entry_Get Aa ca la at_ _ hla (Kd.C_below hra (hBW.trans (hB1.mono hBW.size))) haa hav hb
  refine hC.mono ?_
  clear hC
  rintro e W1 ⟨v, rfl, hR, hW1⟩
  have hF1 := hF.later (hB1.trans (hW1.mono hB1.size))
  have hT1 := hT.later hW1
  have hB2 : Below w.heap.size w W1 := (hBW.trans (hB1.mono hBW.size)).trans (hW1.mono (hBW.trans (hB1.mono hBW.size)).size)
  obtain ⟨Av, cv, rfl, hcv, hRC⟩ := Kd.R_reads hR
  have HR := Lib.hid hRC
  have HF := Lib.hid hF1
  have HTT := Lib.hid hT1
  have HB2 := Lib.hid hB2
  clear hBW hB1 hT hF hc hf hz hW1 hR hRC hB2
  have f2 := hF1.2 2 _ rfl
  have t1 := hT1.2 1 _ rfl
  have f0 := hF1.2 0 _ rfl
  clear hF1 hT1
  go_wp2_with fail
  have hNv := (HNN.out val (.inl rfl)).later HB2.out
  refine (hNv W1 (Below.refl _ _)).mono ?_
  clear hNv
  rintro e W2 ⟨rfl, hW2⟩
  have hB3 : Below w.heap.size w W2 := HB2.out.trans (hW2.mono HB2.out.size)
  have hF2 := HF.out.later hW2
  have hT2 := HTT.out.later hW2
  have hR2 := Kd.C_below HR.out hW2
  clear f2 t1 f0
  have f0 := hF2.2 0 _ rfl
  clear HB2 HR HF HTT hW2
  have HB3 := Lib.hid hB3
  have HF := Lib.hid hF2
  have HTT := Lib.hid hT2
  have HR := Lib.hid hR2
  have hz2 := hF2.1
  clear hB3 hF2 hT2 hR2
  obtain ⟨q, hq⟩ : ∃ q, q = N val := ⟨_, rfl⟩
  rw [← hq]
  have HQ := Lib.hid hq; clear hq
  obtain ⟨n, fine⟩ := q
  have k7 : (k == 7) = false := by simp; omega
  cases fine
  · rcases hk with rfl | rfl
    · go_wp2
      go_ret
      exact ⟨ret_int (by simp [eqF, ← HQ.out]), below_alloc2 HB3.out _⟩
    · go_wp2
      go_ret
      exact ⟨ret_int (by simp [eqF, ← HQ.out]), below_alloc2 HB3.out _⟩
  · have hB4 : Below W2.heap.size W2 (W2.alloc (Obj.cells #[Value.string n] 9)) := below_alloc1 (Below.refl _ _) _
    have hC13 := CellsAt.new W2 #[Value.string n] 9
    have hT3 := HTT.out.later hB4
    have hw4 : Below w.heap.size w (W2.alloc (Obj.cells #[Value.string n] 9)) := HB3.out.trans (hB4.mono HB3.out.size)
    have hCF := containsFunc_S 38 #[.pointer (some ⟨W.heap.size, 0, none⟩), .pointer (some ⟨W2.heap.size, 0, none⟩)] (fun v => (N v).2 && ((N v).1.toList == n.toList)) (fun args w => by kernel_rfl) Av cv (atVals la at_) (W2.alloc (Obj.cells #[Value.string n] 9)) (Nat.le_trans (atVals_len hav) (by omega)) (Kd.C_below HR.out hB4)
      (fun v hv W5 hW5 => Of_1 v n t.f1 (N v) W.heap.size W2.heap.size W5 (hT3.later hW5).1 (hC13.later hW5).1 ((hT3.later hW5).2 1 _ rfl) ((hC13.later hW5).2 0 _ rfl) ((HNN.out v (.inr hv)).later (hw4.trans (hW5.mono hw4.size))))
    have hres : eqF N val (atVals la at_) = if (atVals la at_).any (fun v => (N v).2 && ((N v).1.toList == n.toList)) = true then 1 else 0 := by simp [eqF, ← HQ.out]
    generalize (atVals la at_).any (fun v => (N v).2 && ((N v).1.toList == n.toList)) = bb at hCF hres
    have HCF := Lib.hid hCF
    have HW4 := Lib.hid hw4
    clear hB4 hC13 hT3 hw4 hCF
    have HRES := Lib.hid hres; clear hres
    rcases hk with rfl | rfl
    · cases bb
      all_goals
        go_wp2_with fail
        refine HCF.out.mono ?_
        rintro e W6 ⟨rfl, hW6⟩
        go_wp2_with fail
        refine (truth_one _ _).mono ?_
        rintro e W7 ⟨rfl, rfl⟩
        have HW6 := Lib.hid hW6; clear hW6
        go_wp2
        go_ret
        exact ⟨ret_int HRES.out.symm, HW4.out.trans (HW6.out.mono HW4.out.size)⟩
    · cases bb
      all_goals
        go_wp2_with fail
        refine HCF.out.mono ?_
        rintro e W6 ⟨rfl, hW6⟩
        go_wp2_with fail
        refine (truth_one _ _).mono ?_
        rintro e W7 ⟨rfl, rfl⟩
        have HW6 := Lib.hid hW6; clear hW6
        go_wp2
        go_ret
        exact ⟨ret_int HRES.out.symm, HW4.out.trans (HW6.out.mono HW4.out.size)⟩

/-- A call's answer, a whole number, in every world behind w. -/
def IntAt (w : World) (f : FuncId) (args : Array Value) (r : Int) : Prop :=
  ∀ W, Below w.heap.size w W → Calls Tryz.prog f args W fun e w' => e = .returned (.int .i64 r) ∧ Below W.heap.size W w'
theorem IntAt.later {w W : World} {f : FuncId} {args : Array Value} {r : Int} (h : IntAt w f args r) (hb : Below w.heap.size w W) : IntAt W f args r :=
  fun W' h' => h W' (hb.trans (h'.mono hb.size))
def combF (k : Int) (l : List Int) : Int := if k = 0 then tAnd l else if k = 1 then tOr l else match l with | [x] => tNot x | _ => 2
/-- A row of filters, as cells. -/
def FiltersAt (w : World) (vK : Value) (n : Nat) (vs : List Value) : Prop :=
  vs.length = n ∧ ∃ A c, vK = .slice A n c ∧ n ≤ c ∧ (0 < n → ∃ ad, A = some ad ∧ ∀ i, i < n → ∃ k a v Ap np cp Aq nq cq, vs.getD i .nilIface = .agg #[.int .i64 k, .string a, .string v, .slice Ap np cp, .slice Aq nq cq] ∧
    w.cell? (ad.add (i * 5)) = some (.int .i64 k) ∧ w.cell? ⟨(ad.add (i * 5)).block, (ad.add (i * 5)).off + 1, none⟩ = some (.string a) ∧ w.cell? ⟨(ad.add (i * 5)).block, (ad.add (i * 5)).off + 2, none⟩ = some (.string v) ∧
    w.cell? ⟨(ad.add (i * 5)).block, (ad.add (i * 5)).off + 3, none⟩ = some (.slice Ap np cp) ∧ w.cell? ⟨(ad.add (i * 5)).block, (ad.add (i * 5)).off + 4, none⟩ = some (.slice Aq nq cq))
theorem cell_later {w W : World} (hb : Below w.heap.size w W) {a : Addr} {v : Value} (h : w.cell? a = some v) : W.cell? a = some v := pw_cell_below hb h
theorem FiltersAt.later {w W : World} {vK : Value} {n : Nat} {vs : List Value} (h : FiltersAt w vK n vs) (hb : Below w.heap.size w W) : FiltersAt W vK n vs := by
  obtain ⟨h1, A, c, h2, h3, h4⟩ := h
  refine ⟨h1, A, c, h2, h3, fun hp => ?_⟩
  obtain ⟨ad, e, hc⟩ := h4 hp
  refine ⟨ad, e, fun i hi => ?_⟩
  obtain ⟨k, a, v, Ap, np, cp, Aq, nq, cq, e1, c0, c1, c2, c3, c4⟩ := hc i hi
  exact ⟨k, a, v, Ap, np, cp, Aq, nq, cq, e1, cell_later hb c0, cell_later hb c1, cell_later hb c2, cell_later hb c3, cell_later hb c4⟩

theorem FiltersAt.at_ {w : World} {A : Option Addr} {n c : Nat} {vs : List Value} (h : FiltersAt w (.slice A n c) n vs) (i : Nat) (hi : i < n) : ∃ ad, A = some ad ∧ ∃ k a v Ap np cp Aq nq cq, vs.getD i .nilIface = .agg #[.int .i64 k, .string a, .string v, .slice Ap np cp, .slice Aq nq cq] ∧
    w.cell? (ad.add (i * 5)) = some (.int .i64 k) ∧ w.cell? ⟨(ad.add (i * 5)).block, (ad.add (i * 5)).off + 1, none⟩ = some (.string a) ∧ w.cell? ⟨(ad.add (i * 5)).block, (ad.add (i * 5)).off + 2, none⟩ = some (.string v) ∧
    w.cell? ⟨(ad.add (i * 5)).block, (ad.add (i * 5)).off + 3, none⟩ = some (.slice Ap np cp) ∧ w.cell? ⟨(ad.add (i * 5)).block, (ad.add (i * 5)).off + 4, none⟩ = some (.slice Aq nq cq) := by
  obtain ⟨_, A', c', he, _, h4⟩ := h
  injection he with h1 h2 h3
  subst h1
  obtain ⟨ad, e, hc⟩ := h4 (by omega)
  exact ⟨ad, e, hc i hi⟩
/-- The kids' loop, from its head: what holds there. -/
def KidsRel (w0 : World) (rs : List Int) (i : Nat) (v : Value) (wr : World) : Prop :=
  Below w0.heap.size w0 wr ∧ wr.ownsRow w0.heap.size 3 1 v (rs.take i).length (nums .i64 (rs.take i))

set_option maxHeartbeats 8000000 in
theorem Of_rec0 (A1 : Option Addr) (n1 c1 : Nat) (A2 : Option Addr) (n2 c2 : Nat) (at_ val : ByteArray) (Ap : Option Addr) (np cp : Nat) (vK : Value) (Aa : Option Addr) (na ca : Nat) (n : Nat) (vs : List Value) (rs : List Int) (w : World) (hn : n ≤ 1000000) (hrs : rs.length = n) (hF : FiltersAt w vK n vs)
    (hkids : ∀ i, i < n → IntAt w 16 #[.agg #[.slice A1 n1 c1, .slice A2 n2 c2], vs.getD i .nilIface, .slice Aa na ca] (rs.getD i 0)) :
    Calls Tryz.prog 16 #[.agg #[.slice A1 n1 c1, .slice A2 n2 c2], .agg #[.int .i64 0, .string at_, .string val, .slice Ap np cp, vK], .slice Aa na ca] w fun e w' => e = .returned (.int .i64 (combF 0 rs)) ∧ Below w.heap.size w w' := by
  have HF := Lib.hid hF
  obtain ⟨_, A, c, rfl, hnc, _⟩ := hF
  have HK := Lib.hid hkids; clear hkids
  have HRS := Lib.hid hrs; clear hrs
  go_enter Tryz.func16, Tryz.ntmps16
  go_wp2
  obtain ⟨w0, hw0⟩ : ∃ w0, w0 = (w.alloc (Obj.cells #[Value.slice A1 n1 c1, Value.slice A2 n2 c2] 31)).alloc (Obj.cells #[Value.int IntKind.i64 0, Value.string at_, Value.string val, Value.slice Ap np cp, Value.slice A n c] 36) := ⟨_, rfl⟩
  rw [← hw0]
  have hB0 : Below w.heap.size w w0 := by rw [hw0]; exact below_alloc2 (below_alloc1 (Below.refl _ _) _) _
  have hS0 : CellsAt w0 w.heap.size [.slice A1 n1 c1, .slice A2 n2 c2] := by rw [hw0]; exact (CellsAt.new w #[Value.slice A1 n1 c1, Value.slice A2 n2 c2] 31).later (below_alloc1 (Below.refl _ _) _)
  have hF0 : CellsAt w0 (w.heap.size + 1) [.int .i64 0, .string at_, .string val, .slice Ap np cp, .slice A n c] := by
    rw [hw0]; have := CellsAt.new (w.alloc (Obj.cells #[Value.slice A1 n1 c1, Value.slice A2 n2 c2] 31)) #[Value.int IntKind.i64 0, Value.string at_, Value.string val, Value.slice Ap np cp, Value.slice A n c] 36; simpa using this
  have hz0 : w0.heap.size = w.heap.size + 2 := by rw [hw0]; simp
  have HB0 := Lib.hid hB0
  have HS0 := Lib.hid hS0
  have HF0 := Lib.hid hF0
  have HZ0 := Lib.hid hz0
  clear hB0 hS0 hF0 hz0 hw0
  go_loopw [7, 26] (fun v i wr => ∃ k : Nat, k ≤ n ∧ i = .int .i64 k ∧ KidsRel w0 rs k v wr) (fun _ i _ => n - (intOf i).toNat)
  case atStart => exact ⟨0, Nat.zero_le _, rfl, Below.refl _ _, own_nil _ _ _ _⟩
  case round =>
    obtain ⟨k, hk, rfl, hW, hO⟩ := hrel
    have hwW : Below w.heap.size w wr := HB0.out.trans (hW.mono HB0.out.size)
    have hS := HS0.out.later hW
    have hFF := HF0.out.later hW
    by_cases hlt : k < n
    · obtain ⟨ad, rfl, fk, fa, fv, Afp, nfp, cfp, Afq, nfq, cfq, e1, c0, c1', c2', c3, c4⟩ := (HF.out.later hwW).at_ k hlt
      have hC := (HK.out k hlt).later hwW
      rw [e1] at hC
      have hs1 := hS.2 0 _ rfl
      have hs2 := hS.2 1 _ rfl
      have hsz := hS.1
      have hfz := hFF.1
      have hts := take_snoc rs k (by rw [HRS.out]; exact hlt) 0
      have htl : (rs.take k).length = k := by simp [HRS.out]; omega
      have HC := Lib.hid hC
      have HTS := Lib.hid hts
      have HTL := Lib.hid htl
      have HW := Lib.hid hW
      have HO := Lib.hid hO
      have HwW := Lib.hid hwW
      clear hC hts htl hW hO hwW e1 hS hFF
      generalize rs.getD k 0 = r at *
      go_wp2_with fail
      refine (HC.out _ (below_alloc1 (Below.refl _ _) _)).mono ?_
      rintro e W2 ⟨rfl, hW2⟩
      have hb2 : Below wr.heap.size wr W2 := (below_alloc1 (Below.refl _ _) _).trans (hW2.mono (by simp))
      have hB2 : Below w0.heap.size w0 W2 := HW.out.trans (hb2.mono HW.out.size)
      have hO2 := pw_own_below HO.out hb2
      have HB2 := Lib.hid hB2
      have HO2 := Lib.hid hO2
      clear hb2 hB2 hO2 hW2 c0 c1' c2' c3 c4 hs1 hs2 hsz hfz
      go_wp2_with ((at_builtin; refine print_append_num (w0 := w0) w0.heap.size rfl (.tmp 30) (.tmp 35) 22 3 .i64 8 rfl Tryz.underlying22 info3 (by decide) _ (rs.take k) r rfl rfl HO2.out HB2.out HB2.out.size ?L ?_; (case L => rw [HTL.out]; omega); intro v1 w1 ho hb1 hg hat; clear hg hat; have HO1 := Lib.hid ho; have HB1 := Lib.hid hb1; clear ho hb1))
      go_roundw
      case rel => exact ⟨k + 1, by omega, by go_num, HB1.out, by rw [HTS.out]; exact HO1.out⟩
      case measure => simp [intOf]; omega
    · have hks : k = n := by omega
      have htk : rs.take k = rs := List.take_of_length_le (by rw [HRS.out]; omega)
      rw [htk] at hO
      obtain ⟨Ar, cr, rfl, hcr, hC⟩ := C_own hO
      have f0 := hFF.2 0 _ rfl
      have HC := Lib.hid hC
      have HwW := Lib.hid hwW
      clear hC hO hW hwW hS hFF htk hks
      go_wp2_with fail
      refine (truth_And Ar cr rs _ (by rw [HRS.out]; omega) HC.out).mono ?_
      rintro e W3 ⟨rfl, rfl⟩
      go_wp2
      go_ret
      exact ⟨ret_int rfl, HwW.out⟩
end Go.Proofs.YtfdmmnajaebfeaaGreatDoor
