/- Proved here: the reference's Core lays its eighteen types and nine classes, in every world. -/
import Derived.Test.YtfdmmnajaebfeaaGreatDoorA8
import Derived.Test.YtfdmmnajaebfeaaGreatDoorPTruthCoversx10
set_option linter.unusedVariables false
set_option linter.unusedSimpArgs false
set_option maxRecDepth 100000
namespace Go.Proofs.YtfdmmnajaebfeaaGreatDoor
open Go.RowKit Go.Proofs.YtfdmmnajaebfeaaGreatDoorW.PrintWords Go.Proofs.YtfdmmnajaebfeaaGreatDoorW.PrintLast Go.Proofs.YtfdmmnajaebfeaaGreatDoorW.PrintMore
open PTruthCovers (S82 S71 S36 S143 S113 S228 k82 k71 k36 k143 k113 k228 at_T82 at_T71 rd_T82 rd_T71 castellanref13_types.f castellanref13_types.l0)

/-- What types adds. -/
def tysOf (syn : Int) (ns : List ByteArray) : List S82 := ns.map fun n => ⟨n, syn, false, false⟩
theorem tysOf_snoc (syn : Int) (ns : List ByteArray) (i : Nat) (h : i < ns.length) : tysOf syn (ns.take (i + 1)) = tysOf syn (ns.take i) ++ [⟨rdOf ByteArray.empty ns i, syn, false, false⟩] := by
  rw [take_snoc ns i h ByteArray.empty]
  simp [tysOf, rdOf]
theorem types_run_from (ts : List S82) (syn : Int) (ns : List ByteArray) (hl : ts.length + ns.length ≤ 100000) : ∀ j i, i + j = ns.length → ∃ k, castellanref13_types.l0 k (ts ++ tysOf syn (ns.take i)) syn ns (ns.length : Int) (i : Int) = some (ts ++ tysOf syn ns)
  | 0, i, h => ⟨1, by
    have : i = ns.length := by omega
    subst this
    simp [castellanref13_types.l0]⟩
  | j + 1, i, h => by
    obtain ⟨k, hk⟩ := types_run_from ts syn ns hl j (i + 1) (by omega)
    refine ⟨k + 1, ?_⟩
    have e1 : (i : Int) < (ns.length : Int) := by omega
    have e3 : (ts ++ tysOf syn (ns.take i)).length < 4398046511104 := by simp [tysOf]; omega
    rw [castellanref13_types.l0, if_pos e1, if_pos (by omega : (0 : Int) ≤ i), if_pos e1, if_pos e3]
    rw [tysOf_snoc syn ns i (by omega)] at hk
    rw [← hk]
    have e4 : wrap64 ((i : Int) + 1) = ((i + 1 : Nat) : Int) := by rw [show ((i + 1 : Nat) : Int) = (i : Int) + 1 by omega]; exact (by unfold wrap64; omega)
    rw [e4, List.append_assoc]
theorem types_run (ts : List S82) (syn : Int) (ns : List ByteArray) (hl : ts.length + ns.length ≤ 100000) : ∃ k, castellanref13_types.f k ts syn ns = some (ts ++ tysOf syn ns) := by
  obtain ⟨k, h⟩ := types_run_from ts syn ns hl ns.length 0 (by omega)
  refine ⟨k, ?_⟩
  have e : ts ++ tysOf syn (ns.take 0) = ts := by simp [tysOf]
  rw [e] at h
  exact h

/-- The types, while Core fills them in: fld is what the variable's field holds. -/
def TySt (w : World) (ts : List S82) (v fld : Value) (W : World) : Prop :=
  Below w.heap.size w W ∧ W.heap[w.heap.size]? = some (.cells #[.slice none 0 0, .slice none 0 0] 31 (0, 0)) ∧ W.heap[w.heap.size + 1]? = some (.cells #[fld, .slice none 0 0] 31 (0, 0)) ∧
    Kd.R k82 82 W w.heap.size (fun k => k ≠ w.heap.size ∧ k ≠ w.heap.size + 1) v ts
theorem TySt.alloc {w : World} {ts : List S82} {v fld : Value} {W : World} (h : TySt w ts v fld W) (o : Obj) : TySt w ts v fld (W.alloc o) := by
  obtain ⟨h1, h2, h3, h4⟩ := h
  exact ⟨below_alloc h1 o, (Below.heap_alloc W o _ (blk_lt h2)).trans h2, (Below.heap_alloc W o _ (blk_lt h3)).trans h3, Kd.R_alloc h4 o⟩
theorem TySt.set {w : World} {ts : List S82} {v fld : Value} {W : World} (h : TySt w ts v fld W) : TySt w ts v v (W.setCell ⟨w.heap.size + 1, 0, none⟩ v) := by
  obtain ⟨h1, h2, h3, h4⟩ := h
  refine ⟨h1.setCell (by simp) _, (blk_far h2 (by simp) _), ?_, Kd.R_far h4 (fun k hk => hk.2) _⟩
  have := blk_set h3 0 v
  simpa using this
theorem strs_C (W : World) (ns : List ByteArray) (hn : ns.length ≤ 1000) : Kd.R Kd.string 9 (W.alloc (.cells (encs Value.string ns).toArray 9)) W.heap.size (fun k => k = W.heap.size) (.slice (some ⟨W.heap.size, 0, none⟩) ns.length ns.length) ns :=
  Kd.R_of_own (own_lit_of W W.heap.size 9 ns (Nat.le_refl _) (by omega)) (fun k hk => by simp [Value.ownBlock] at hk; exact hk.symm)

theorem types_at (w : World) (ts : List S82) (v : Value) (W : World) (syn : Int) (ns : List ByteArray) (h : TySt w ts v v W) (hl : ts.length + ns.length ≤ 1000) (g n : Nat) (hg : g = W.heap.size) (hn : n = ns.length) (cs : Array Value) (hcs : cs = (encs Value.string ns).toArray) :
    Calls Tryz.prog 57 #[v, .int .i64 syn, .slice (some ⟨g, 0, none⟩) n n] (W.alloc (.cells cs 9)) fun e w' => ∃ v', e = .returned v' ∧ TySt w (ts ++ tysOf syn ns) v' v w' := by
  subst hg hn hcs
  obtain ⟨k, hk⟩ := types_run ts syn ns (by omega)
  have hs := strs_C W ns (by omega)
  obtain ⟨h1, h2, h3, h4⟩ := h
  have h0 : w.heap.size + 1 < W.heap.size := blk_lt h3
  obtain ⟨W1, hW1⟩ : ∃ W1, W1 = W.alloc (.cells (encs Value.string ns).toArray 9) := ⟨_, rfl⟩
  rw [← hW1] at hs ⊢
  have hb : Below w.heap.size w W1 := by rw [hW1]; exact below_alloc h1 _
  have hb1 : Below W.heap.size W W1 := by rw [hW1]; exact below_alloc (Below.refl _ _) _
  have hr : Kd.R k82 82 W1 w.heap.size (fun k => k ≠ w.heap.size ∧ k ≠ w.heap.size + 1 ∧ k < W.heap.size) v ts := Kd.R_below (Kd.R_mono (Kd.R_bound h4) (fun k hk => ⟨hk.1.1, hk.1.2, hk.2.2.1⟩)) hb1
  have hz1 : W1.heap.size = W.heap.size + 1 := by rw [hW1]; simp
  have h2' : W1.heap[w.heap.size]? = _ := (hb1.block _ (by omega)).trans h2
  have h3' : W1.heap[w.heap.size + 1]? = _ := (hb1.block _ (by omega)).trans h3
  refine (PTruthCovers.castellanref13_types.calls k (fun k => k ≠ w.heap.size ∧ k ≠ w.heap.size + 1 ∧ k < W.heap.size) v ts syn (some ⟨W.heap.size, 0, none⟩) ns.length ns _ w W1 hb hr ?_ (Nat.le_refl _) hk).mono ?_
  · intro W2 hK
    have := Kd.R_step hs (w1 := W2) (fun k hk hlt => hK.2 k hlt (by subst hk; simp))
    obtain ⟨A, c, he, _, hC⟩ := Kd.R_reads this
    injection he with e1 e2 e3
    rw [e1]; exact hC
  · rintro e W2 ⟨v', rfl, hR, hB, hK⟩
    refine ⟨v', rfl, hB, (hK.2 _ (by omega) (by simp)).trans h2', (hK.2 _ (by omega) (by simp)).trans h3', Kd.R_mono hR ?_⟩
    rintro k (⟨a, b, _⟩ | hk)
    · exact ⟨a, b⟩
    · exact ⟨by omega, by omega⟩


section
variable {ops : Array Oper} {rest : List Oper} {o : Oper} {a : Act} {Q : Exit → Act → World → Prop}
/-- append(l.Types, one type) -/
theorem TySt_append (hgd : o.guard = none) (s x : Operand) (ho : o.op = .call { callee := .builtin .append, args := #[s, x], argTypes := #[28, 28] })
    (w W : World) (v : Value) (ts : List S82) (p : S82) (cs : Array Value) (hcs : cs = #[.string p.f0, .int .i64 p.f1, .bool p.f2, .bool p.f3]) (hs : a.eval s = v) (g : Nat) (hg : g = W.heap.size) (hx : a.eval x = .slice (some ⟨g, 0, none⟩) 1 1)
    (h : TySt w ts v v W) (hl : ts.length ≤ 1000)
    (hk : ∀ A c w1, TySt w (ts ++ [p]) (.slice A (ts ++ [p]).length c) v w1 → (∀ (g : Nat) (cs : Array Value) (t : TypeId), W.heap[g]? = some (.cells cs t (0, 0)) → t ≠ 82 → w1.heap[g]? = some (.cells cs t (0, 0))) → wpList Tryz.prog ops Q rest (a.put o.dst (.slice A (ts ++ [p]).length c)) w1) :
    wpList Tryz.prog ops Q (o :: rest) a (W.alloc (.cells cs 82)) := by
  subst hcs hg
  obtain ⟨h1, h2, h3, h4⟩ := h
  refine Kd.R_append k82 (w0 := w) w.heap.size hgd s x 28 82 (.agg #[(.string ⟨#[]⟩), (.int .i64 0), (.bool false), (.bool false)]) 32 ho Tryz.underlying28 PTruthCovers.info82 rfl (by decide) (by omega) v ts p [.string p.f0, .int .i64 p.f1, .bool p.f2, .bool p.f3] (fun k => k ≠ w.heap.size ∧ k ≠ w.heap.size + 1) (fun _ => False) hs hx (PTruthCovers.k82_mkM _ _ _ p) (fun _ hk => hk.elim) ?_ h4 h1 h1.size (by omega) ?_
  · intro k hk
    have := blk_lt h3
    exact ⟨by omega, by omega⟩
  · intro v1 w1 hr hb hgr hat
    obtain ⟨A, c, rfl⟩ := Kd.R_slice hr
    have hfar : ∀ (g : Nat) (cs : Array Value) (t : TypeId), W.heap[g]? = some (.cells cs t (0, 0)) → t ≠ 82 → w1.heap[g]? = some (.cells cs t (0, 0)) := fun g cs t hgc ht =>
      (hgr.block g (blk_lt hgc) (Kd.R_ne h4 hgc (Ne.symm ht))).trans hgc
    exact hk A c w1 ⟨hb, hfar _ _ _ h2 (by decide), hfar _ _ _ h3 (by decide), hr⟩ hfar
end
theorem tySt_cell {w : World} {ts : List S82} {v fld : Value} {W : World} (h : TySt w ts v fld W) : W.cell? ⟨w.heap.size + 1, 0, none⟩ = some fld ∧ W.frozen? ⟨w.heap.size + 1, 0, none⟩ = false := by
  have hb := h.2.2.1
  have hc := blk_cell hb 0
  exact ⟨by simpa using hc, by simp [World.frozen?, hb]⟩

theorem TySt.below {w : World} {ts : List S82} {v fld : Value} {W W1 : World} (h : TySt w ts v fld W) (hb : Below W.heap.size W W1) : TySt w ts v fld W1 := by
  obtain ⟨h1, h2, h3, h4⟩ := h
  exact ⟨h1.trans (hb.mono h1.size), (hb.block _ (blk_lt h2)).trans h2, (hb.block _ (blk_lt h3)).trans h3, Kd.R_below h4 hb⟩
/-- The operational types. -/
def coreOps : List S82 := [⟨⟨#[99, 114, 101, 97, 116, 101, 100, 65, 116]⟩, 4, true, true⟩, ⟨⟨#[99, 104, 97, 110, 103, 101, 100, 65, 116]⟩, 4, true, true⟩, ⟨⟨#[112, 119, 100, 70, 97, 105, 108, 117, 114, 101]⟩, 3, false, true⟩, ⟨⟨#[112, 119, 100, 76, 111, 99, 107, 101, 100]⟩, 4, true, true⟩, ⟨⟨#[112, 119, 100, 67, 104, 97, 110, 103, 101, 100]⟩, 4, true, true⟩]


/-- The types stand, the classes are being filled in. -/
def ClSt (w : World) (ts : List S82) (v1 : Value) (cs : List S113) (v fld : Value) (W : World) : Prop :=
  Below w.heap.size w W ∧ W.heap[w.heap.size]? = some (.cells #[.slice none 0 0, .slice none 0 0] 31 (0, 0)) ∧ W.heap[w.heap.size + 1]? = some (.cells #[v1, fld] 31 (0, 0)) ∧
    Kd.R k82 82 W w.heap.size (fun k => k ≠ w.heap.size ∧ k ≠ w.heap.size + 1) v1 ts ∧ Kd.R k113 113 W w.heap.size (fun k => k ≠ w.heap.size ∧ k ≠ w.heap.size + 1) v cs
theorem ClSt.start {w : World} {ts : List S82} {v : Value} {W : World} (h : TySt w ts v v W) : ClSt w ts v [] (.slice none 0 0) (.slice none 0 0) W :=
  ⟨h.1, h.2.1, h.2.2.1, h.2.2.2, Kd.R_nil _ _ _ _ _⟩
theorem ClSt.set {w : World} {ts : List S82} {v1 : Value} {cs : List S113} {v fld : Value} {W : World} (h : ClSt w ts v1 cs v fld W) : ClSt w ts v1 cs v v (W.setCell ⟨w.heap.size + 1, 1, none⟩ v) := by
  obtain ⟨h1, h2, h3, h4, h5⟩ := h
  refine ⟨h1.setCell (by simp) _, (blk_far h2 (by simp) _), ?_, Kd.R_far h4 (fun k hk => hk.2) _, Kd.R_far h5 (fun k hk => hk.2) _⟩
  have := blk_set h3 1 v
  simpa using this
theorem clSt_cell {w : World} {ts : List S82} {v1 : Value} {cs : List S113} {v fld : Value} {W : World} (h : ClSt w ts v1 cs v fld W) : W.cell? ⟨w.heap.size + 1, 1, none⟩ = some fld ∧ W.frozen? ⟨w.heap.size + 1, 1, none⟩ = false := by
  have hb := h.2.2.1
  have hc := blk_cell hb 1
  exact ⟨by simpa using hc, by simp [World.frozen?, hb]⟩
theorem clSt_all {w : World} {ts : List S82} {v1 : Value} {cs : List S113} {v fld : Value} {W : World} (h : ClSt w ts v1 cs v fld W) : W.cell? ⟨w.heap.size + 1, 0, none⟩ = some v1 ∧ W.cell? ⟨w.heap.size, 0, none⟩ = some (.slice none 0 0) ∧ W.cell? ⟨w.heap.size, 1, none⟩ = some (.slice none 0 0) ∧ W.frozen? ⟨w.heap.size, 0, none⟩ = false ∧ W.frozen? ⟨w.heap.size, 1, none⟩ = false := by
  have hb := h.2.2.1
  have ha := h.2.1
  have hc := blk_cell hb 0
  have h0 := blk_cell ha 0
  have h1 := blk_cell ha 1
  exact ⟨by simpa using hc, by simpa using h0, by simpa using h1, by simp [World.frozen?, ha], by simp [World.frozen?, ha]⟩
theorem R82_grown {W w1 : World} {base : Nat} {ok : Nat → Prop} {v1 v : Value} {ts : List S82} {cs : List S113} (h4 : Kd.R k82 82 W base ok v1 ts) (h5 : Kd.R k113 113 W base ok v cs) (hg : W.grownBy w1 v.ownBlock) : Kd.R k82 82 w1 base ok v1 ts := by
  refine Kd.R_mono (Kd.R_grown (Kd.R_bound h4) hg ?_) (fun k hk => hk.1)
  rintro k ⟨_, _, _, q, hq, cells, hc⟩
  have h82 : q = 82 := by simpa [k82, Kd.iso, Kd.pair, Kd.string, Kd.int, Kd.bool, Kd.scalar] using hq
  subst h82
  exact Kd.R_ne h5 hc (by decide)
section
variable {ops : Array Oper} {rest : List Oper} {o : Oper} {a : Act} {Q : Exit → Act → World → Prop}
/-- append(l.Classes, one class), whose rows were made since W0 -/
theorem ClSt_append (hgd : o.guard = none) (s x : Operand) (ho : o.op = .call { callee := .builtin .append, args := #[s, x], argTypes := #[29, 29] })
    (w W0 W : World) (ts : List S82) (v1 v : Value) (cs : List S113) (p : S113) (ps : List Value) (hs : a.eval s = v) (hx : a.eval x = .slice (some ⟨W.heap.size, 0, none⟩) 1 1)
    (h : ClSt w ts v1 cs v v W0) (hb : Below W0.heap.size W0 W) (hp : k113.M W w.heap.size (fun k => W0.heap.size ≤ k) p ps) (hl : cs.length ≤ 1000)
    (hk : ∀ A c w1, ClSt w ts v1 (cs ++ [p]) (.slice A (cs.length + 1) c) v w1 → wpList Tryz.prog ops Q rest (a.put o.dst (.slice A (cs.length + 1) c)) w1) :
    wpList Tryz.prog ops Q (o :: rest) a (W.alloc (.cells ps.toArray 113)) := by
  obtain ⟨h1, h2, h3, h4, h5⟩ := h
  have h1' : Below w.heap.size w W := h1.trans (hb.mono h1.size)
  have h2' := (hb.block _ (blk_lt h2)).trans h2
  have h3' := (hb.block _ (blk_lt h3)).trans h3
  have h4' := Kd.R_below h4 hb
  have h5' := Kd.R_below h5 hb
  refine Kd.R_append k113 (w0 := w) w.heap.size hgd s x 29 113 (.agg #[(.string ⟨#[]⟩), (.string ⟨#[]⟩), (.int .i64 0), (.slice none 0 0), (.slice none 0 0)]) 88 ho Tryz.underlying29 PTruthCovers.info113 rfl (by decide) (by omega) v cs p ps (fun k => k ≠ w.heap.size ∧ k ≠ w.heap.size + 1) (fun k => W0.heap.size ≤ k) hs hx hp ?_ ?_ h5' h1' h1'.size (by omega) ?_
  · intro k hk
    have := blk_lt h3
    refine ⟨⟨by omega, by omega⟩, fun e => ?_⟩
    obtain ⟨inner, hown⟩ := Kd.R_own h5
    have := own_lt hown k e.symm
    omega
  · intro k hk
    have := blk_lt h3'
    exact ⟨by omega, by omega⟩
  · intro v' w1 hr hbb hgr hat
    obtain ⟨A, c, rfl⟩ := Kd.R_slice hr
    have hfar : ∀ (g : Nat) (cs : Array Value) (t : TypeId), W.heap[g]? = some (.cells cs t (0, 0)) → t ≠ 113 → w1.heap[g]? = some (.cells cs t (0, 0)) := fun g cs t hgc ht =>
      (hgr.block g (blk_lt hgc) (Kd.R_ne h5' hgc (Ne.symm ht))).trans hgc
    have e : (cs ++ [p]).length = cs.length + 1 := by simp
    rw [e] at hr
    rw [e]
    exact hk A c w1 ⟨hbb, hfar _ _ _ h2' (by decide), hfar _ _ _ h3' (by decide), R82_grown h4' h5' hgr, hr⟩
theorem strs_M (w W0 W : World) (ns : List ByteArray) (hw : w.heap.size ≤ W0.heap.size) (hb : Below W0.heap.size W0 W) (hn : ns.length ≤ 1000) (g n : Nat) (cs : Array Value) (hcs : cs = (encs Value.string ns).toArray) (hg : g = W.heap.size) (hn' : n = ns.length) : Kd.R Kd.string 9 (W.alloc (.cells cs 9)) w.heap.size (fun k => W0.heap.size ≤ k) (.slice (some ⟨g, 0, none⟩) n n) ns := by
  subst hcs hg hn'
  have := hb.size
  exact Kd.R_mono (Kd.R_lower (strs_C W ns hn) (by omega)) (fun k hk => by subst hk; exact this)
theorem ClSt_both (hgd : o.guard = none) (s x : Operand) (ho : o.op = .call { callee := .builtin .append, args := #[s, x], argTypes := #[29, 29] })
    (w W0 : World) (ts : List S82) (v1 v : Value) (cs : List S113) (nm su : ByteArray) (kd : Int) (mu ma : List ByteArray) (c3 c4 : Array Value) (h3 : c3 = (encs Value.string mu).toArray) (h4 : c4 = (encs Value.string ma).toArray) (g3 g4 gx n3 n4 : Nat)
    (hg3 : g3 = W0.heap.size) (hg4 : g4 = W0.heap.size + 1) (hgx : gx = W0.heap.size + 1 + 1) (hn3 : n3 = mu.length) (hn4 : n4 = ma.length) (l3 : mu.length ≤ 1000) (l4 : ma.length ≤ 1000) (hs : a.eval s = v) (hx : a.eval x = .slice (some ⟨gx, 0, none⟩) 1 1)
    (h : ClSt w ts v1 cs v v W0) (hl : cs.length ≤ 1000)
    (hk : ∀ A c w1, ClSt w ts v1 (cs ++ [⟨nm, su, kd, mu, ma⟩]) (.slice A (cs.length + 1) c) v w1 → wpList Tryz.prog ops Q rest (a.put o.dst (.slice A (cs.length + 1) c)) w1) :
    wpList Tryz.prog ops Q (o :: rest) a (((W0.alloc (.cells c3 9)).alloc (.cells c4 9)).alloc (.cells #[.string nm, .string su, .int .i64 kd, .slice (some ⟨g3, 0, none⟩) n3 n3, .slice (some ⟨g4, 0, none⟩) n4 n4] 113)) := by
  have hw := h.1.size
  have hb1 := below_alloc (Below.refl W0.heap.size W0) (.cells c3 9)
  refine ClSt_append hgd s x ho w W0 _ ts v1 v cs ⟨nm, su, kd, mu, ma⟩ [.string nm, .string su, .int .i64 kd, .slice (some ⟨g3, 0, none⟩) n3 n3, .slice (some ⟨g4, 0, none⟩) n4 n4] hs (by simpa [hgx] using hx) h (below_alloc hb1 _) ?_ hl hk
  exact PTruthCovers.k113_mkM _ _ _ ⟨nm, su, kd, mu, ma⟩ (Kd.R_alloc (strs_M w W0 W0 mu hw (Below.refl _ _) l3 g3 n3 c3 h3 hg3 hn3) _) (strs_M w W0 _ ma hw hb1 l4 g4 n4 c4 h4 (by rw [hg4]; simp) hn4)
theorem ClSt_may (hgd : o.guard = none) (s x : Operand) (ho : o.op = .call { callee := .builtin .append, args := #[s, x], argTypes := #[29, 29] })
    (w W0 : World) (ts : List S82) (v1 v : Value) (cs : List S113) (nm su : ByteArray) (kd : Int) (ma : List ByteArray) (c4 : Array Value) (h4 : c4 = (encs Value.string ma).toArray) (g4 gx n4 : Nat)
    (hg4 : g4 = W0.heap.size) (hgx : gx = W0.heap.size + 1) (hn4 : n4 = ma.length) (l4 : ma.length ≤ 1000) (hs : a.eval s = v) (hx : a.eval x = .slice (some ⟨gx, 0, none⟩) 1 1)
    (h : ClSt w ts v1 cs v v W0) (hl : cs.length ≤ 1000)
    (hk : ∀ A c w1, ClSt w ts v1 (cs ++ [⟨nm, su, kd, [], ma⟩]) (.slice A (cs.length + 1) c) v w1 → wpList Tryz.prog ops Q rest (a.put o.dst (.slice A (cs.length + 1) c)) w1) :
    wpList Tryz.prog ops Q (o :: rest) a ((W0.alloc (.cells c4 9)).alloc (.cells #[.string nm, .string su, .int .i64 kd, .slice none 0 0, .slice (some ⟨g4, 0, none⟩) n4 n4] 113)) := by
  have hw := h.1.size
  refine ClSt_append hgd s x ho w W0 _ ts v1 v cs ⟨nm, su, kd, [], ma⟩ [.string nm, .string su, .int .i64 kd, .slice none 0 0, .slice (some ⟨g4, 0, none⟩) n4 n4] hs (by simpa [hgx] using hx) h (below_alloc (Below.refl _ _) _) ?_ hl hk
  exact PTruthCovers.k113_mkM _ _ _ ⟨nm, su, kd, [], ma⟩ (Kd.R_nil _ _ _ _ _) (strs_M w W0 W0 ma hw (Below.refl _ _) l4 g4 n4 c4 h4 hg4 hn4)
theorem ClSt_must (hgd : o.guard = none) (s x : Operand) (ho : o.op = .call { callee := .builtin .append, args := #[s, x], argTypes := #[29, 29] })
    (w W0 : World) (ts : List S82) (v1 v : Value) (cs : List S113) (nm su : ByteArray) (kd : Int) (ma : List ByteArray) (c4 : Array Value) (h4 : c4 = (encs Value.string ma).toArray) (g4 gx n4 : Nat)
    (hg4 : g4 = W0.heap.size) (hgx : gx = W0.heap.size + 1) (hn4 : n4 = ma.length) (l4 : ma.length ≤ 1000) (hs : a.eval s = v) (hx : a.eval x = .slice (some ⟨gx, 0, none⟩) 1 1)
    (h : ClSt w ts v1 cs v v W0) (hl : cs.length ≤ 1000)
    (hk : ∀ A c w1, ClSt w ts v1 (cs ++ [⟨nm, su, kd, ma, []⟩]) (.slice A (cs.length + 1) c) v w1 → wpList Tryz.prog ops Q rest (a.put o.dst (.slice A (cs.length + 1) c)) w1) :
    wpList Tryz.prog ops Q (o :: rest) a ((W0.alloc (.cells c4 9)).alloc (.cells #[.string nm, .string su, .int .i64 kd, .slice (some ⟨g4, 0, none⟩) n4 n4, .slice none 0 0] 113)) := by
  have hw := h.1.size
  refine ClSt_append hgd s x ho w W0 _ ts v1 v cs ⟨nm, su, kd, ma, []⟩ [.string nm, .string su, .int .i64 kd, .slice (some ⟨g4, 0, none⟩) n4 n4, .slice none 0 0] hs (by simpa [hgx] using hx) h (below_alloc (Below.refl _ _) _) ?_ hl hk
  exact PTruthCovers.k113_mkM _ _ _ ⟨nm, su, kd, ma, []⟩ (strs_M w W0 W0 ma hw (Below.refl _ _) l4 g4 n4 c4 h4 hg4 hn4) (Kd.R_nil _ _ _ _ _)
end

/-- Core's types. -/
def coreTypes : List S82 := ((((((((([] : List S82) ++ tysOf 3 [⟨#[111, 98, 106, 101, 99, 116, 67, 108, 97, 115, 115]⟩]) ++ tysOf 1 [⟨#[99, 110]⟩, ⟨#[115, 110]⟩, ⟨#[111, 117]⟩, ⟨#[111]⟩]) ++ tysOf 3 [⟨#[100, 99]⟩, ⟨#[117, 105, 100]⟩, ⟨#[109, 97, 105, 108]⟩]) ++ tysOf 1 [⟨#[100, 101, 115, 99, 114, 105, 112, 116, 105, 111, 110]⟩]) ++ tysOf 6 [⟨#[109, 101, 109, 98, 101, 114]⟩]) ++ tysOf 7 [⟨#[117, 115, 101, 114, 80, 97, 115, 115, 119, 111, 114, 100]⟩]) ++ [(⟨⟨#[101, 109, 112, 108, 111, 121, 101, 101, 78, 117, 109, 98, 101, 114]⟩, 4, true, false⟩ : S82)]) ++ [(⟨⟨#[97, 99, 116, 105, 118, 101]⟩, 5, true, false⟩ : S82)]) ++ coreOps.take 5
/-- Core's classes. -/
def coreClasses : List S113 := (((((((((([] : List S113) ++ [(⟨⟨#[116, 111, 112]⟩, ⟨#[]⟩, 0, [⟨#[111, 98, 106, 101, 99, 116, 67, 108, 97, 115, 115]⟩], [⟨#[99, 114, 101, 97, 116, 101, 100, 65, 116]⟩, ⟨#[99, 104, 97, 110, 103, 101, 100, 65, 116]⟩, ⟨#[112, 119, 100, 70, 97, 105, 108, 117, 114, 101]⟩, ⟨#[112, 119, 100, 76, 111, 99, 107, 101, 100]⟩, ⟨#[112, 119, 100, 67, 104, 97, 110, 103, 101, 100]⟩]⟩ : S113)]) ++ [(⟨⟨#[100, 111, 109, 97, 105, 110]⟩, ⟨#[116, 111, 112]⟩, 1, [⟨#[100, 99]⟩], [⟨#[100, 101, 115, 99, 114, 105, 112, 116, 105, 111, 110]⟩]⟩ : S113)]) ++ [(⟨⟨#[111, 114, 103, 97, 110, 105, 122, 97, 116, 105, 111, 110]⟩, ⟨#[116, 111, 112]⟩, 1, [⟨#[111]⟩], [⟨#[100, 101, 115, 99, 114, 105, 112, 116, 105, 111, 110]⟩]⟩ : S113)]) ++ [(⟨⟨#[111, 114, 103, 97, 110, 105, 122, 97, 116, 105, 111, 110, 97, 108, 85, 110, 105, 116]⟩, ⟨#[116, 111, 112]⟩, 1, [⟨#[111, 117]⟩], [⟨#[100, 101, 115, 99, 114, 105, 112, 116, 105, 111, 110]⟩]⟩ : S113)]) ++ [(⟨⟨#[112, 101, 114, 115, 111, 110]⟩, ⟨#[116, 111, 112]⟩, 1, [⟨#[99, 110]⟩, ⟨#[115, 110]⟩], [⟨#[100, 101, 115, 99, 114, 105, 112, 116, 105, 111, 110]⟩, ⟨#[117, 115, 101, 114, 80, 97, 115, 115, 119, 111, 114, 100]⟩]⟩ : S113)]) ++ [(⟨⟨#[105, 110, 101, 116, 80, 101, 114, 115, 111, 110]⟩, ⟨#[112, 101, 114, 115, 111, 110]⟩, 1, [], [⟨#[117, 105, 100]⟩, ⟨#[109, 97, 105, 108]⟩, ⟨#[101, 109, 112, 108, 111, 121, 101, 101, 78, 117, 109, 98, 101, 114]⟩, ⟨#[97, 99, 116, 105, 118, 101]⟩]⟩ : S113)]) ++ [(⟨⟨#[103, 114, 111, 117, 112]⟩, ⟨#[116, 111, 112]⟩, 1, [⟨#[99, 110]⟩, ⟨#[109, 101, 109, 98, 101, 114]⟩], [⟨#[100, 101, 115, 99, 114, 105, 112, 116, 105, 111, 110]⟩]⟩ : S113)]) ++ [(⟨⟨#[115, 101, 99, 117, 114, 101, 100]⟩, ⟨#[116, 111, 112]⟩, 2, [⟨#[117, 115, 101, 114, 80, 97, 115, 115, 119, 111, 114, 100]⟩], []⟩ : S113)]) ++ [(⟨⟨#[108, 97, 98, 101, 108, 108, 101, 100]⟩, ⟨#[116, 111, 112]⟩, 2, [], [⟨#[117, 105, 100]⟩, ⟨#[109, 97, 105, 108]⟩]⟩ : S113)])
set_option maxHeartbeats 40000000 in
theorem core_25 (w : World) : Calls Tryz.prog 25 #[] w fun e w' => ∃ A1 c1 A2 c2, e = .returned (.agg #[.slice A1 18 c1, .slice A2 9 c2]) ∧ Kd.C k82 w' A1 18 coreTypes ∧ Kd.C k113 w' A2 9 coreClasses ∧ 18 ≤ c1 ∧ 9 ≤ c2 ∧ Below w.heap.size w w' := by
  go_enter Tryz.func25, Tryz.ntmps25
  go_wp2_with fail
  have hT0 : TySt w [] (.slice none 0 0) (.slice none 0 0) ((w.alloc (Obj.cells #[Value.slice none 0 0, Value.slice none 0 0] 31)).alloc (Obj.cells #[Value.slice none 0 0, Value.slice none 0 0] 31)) := by
    refine ⟨below_alloc (below_alloc (Below.refl _ _) _) _, ?_, ?_, Kd.R_nil _ _ _ _ _⟩
    · rw [Below.heap_alloc _ _ _ (by simp)]; exact heap_alloc_new _ _
    · have := heap_alloc_new (w.alloc (Obj.cells #[Value.slice none 0 0, Value.slice none 0 0] 31)) (Obj.cells #[Value.slice none 0 0, Value.slice none 0 0] 31)
      simpa using this
  refine (types_at w _ _ _ 3 [⟨#[111, 98, 106, 101, 99, 116, 67, 108, 97, 115, 115]⟩] hT0 (by simp) _ _ (by simp) rfl _ rfl).mono ?_
  rintro e W0 ⟨v, rfl, hT⟩
  clear hT0
  obtain ⟨ts0, hE⟩ : ∃ t, t = ([] : List S82) ++ tysOf 3 [⟨#[111, 98, 106, 101, 99, 116, 67, 108, 97, 115, 115]⟩] := ⟨_, rfl⟩
  rw [← hE] at hT
  have HL0 : Hid (ts0.length = 1) := Lib.hid (by rw [hE]; simp [tysOf])
  have HE0 := Lib.hid hE; clear hE
  obtain ⟨hc, hf⟩ := tySt_cell hT
  obtain ⟨A0, c0, rfl⟩ := Kd.R_slice hT.2.2.2
  have HT0 := Lib.hid hT; clear hT
  go_wp2_with fail
  refine (types_at w _ _ _ 1 [⟨#[99, 110]⟩, ⟨#[115, 110]⟩, ⟨#[111, 117]⟩, ⟨#[111]⟩] HT0.out.set (by rw [HL0.out]; decide) _ _ (by simp) rfl _ rfl).mono ?_
  rintro e W1 ⟨v, rfl, hT⟩
  clear hc hf
  obtain ⟨ts1, hE⟩ : ∃ t, t = ts0 ++ tysOf 1 [⟨#[99, 110]⟩, ⟨#[115, 110]⟩, ⟨#[111, 117]⟩, ⟨#[111]⟩] := ⟨_, rfl⟩
  rw [← hE] at hT
  have HL1 : Hid (ts1.length = 5) := Lib.hid (by rw [hE]; simp [tysOf, HL0.out])
  have HE1 := Lib.hid hE; clear hE
  obtain ⟨hc, hf⟩ := tySt_cell hT
  obtain ⟨A1, c1, rfl⟩ := Kd.R_slice hT.2.2.2
  have HT1 := Lib.hid hT; clear hT
  go_wp2_with fail
  refine (types_at w _ _ _ 3 [⟨#[100, 99]⟩, ⟨#[117, 105, 100]⟩, ⟨#[109, 97, 105, 108]⟩] HT1.out.set (by rw [HL1.out]; decide) _ _ (by simp) rfl _ rfl).mono ?_
  rintro e W2 ⟨v, rfl, hT⟩
  clear hc hf
  obtain ⟨ts2, hE⟩ : ∃ t, t = ts1 ++ tysOf 3 [⟨#[100, 99]⟩, ⟨#[117, 105, 100]⟩, ⟨#[109, 97, 105, 108]⟩] := ⟨_, rfl⟩
  rw [← hE] at hT
  have HL2 : Hid (ts2.length = 8) := Lib.hid (by rw [hE]; simp [tysOf, HL1.out])
  have HE2 := Lib.hid hE; clear hE
  obtain ⟨hc, hf⟩ := tySt_cell hT
  obtain ⟨A2, c2, rfl⟩ := Kd.R_slice hT.2.2.2
  have HT2 := Lib.hid hT; clear hT
  go_wp2_with fail
  refine (types_at w _ _ _ 1 [⟨#[100, 101, 115, 99, 114, 105, 112, 116, 105, 111, 110]⟩] HT2.out.set (by rw [HL2.out]; decide) _ _ (by simp) rfl _ rfl).mono ?_
  rintro e W3 ⟨v, rfl, hT⟩
  clear hc hf
  obtain ⟨ts3, hE⟩ : ∃ t, t = ts2 ++ tysOf 1 [⟨#[100, 101, 115, 99, 114, 105, 112, 116, 105, 111, 110]⟩] := ⟨_, rfl⟩
  rw [← hE] at hT
  have HL3 : Hid (ts3.length = 9) := Lib.hid (by rw [hE]; simp [tysOf, HL2.out])
  have HE3 := Lib.hid hE; clear hE
  obtain ⟨hc, hf⟩ := tySt_cell hT
  obtain ⟨A3, c3, rfl⟩ := Kd.R_slice hT.2.2.2
  have HT3 := Lib.hid hT; clear hT
  go_wp2_with fail
  refine (types_at w _ _ _ 6 [⟨#[109, 101, 109, 98, 101, 114]⟩] HT3.out.set (by rw [HL3.out]; decide) _ _ (by simp) rfl _ rfl).mono ?_
  rintro e W4 ⟨v, rfl, hT⟩
  clear hc hf
  obtain ⟨ts4, hE⟩ : ∃ t, t = ts3 ++ tysOf 6 [⟨#[109, 101, 109, 98, 101, 114]⟩] := ⟨_, rfl⟩
  rw [← hE] at hT
  have HL4 : Hid (ts4.length = 10) := Lib.hid (by rw [hE]; simp [tysOf, HL3.out])
  have HE4 := Lib.hid hE; clear hE
  obtain ⟨hc, hf⟩ := tySt_cell hT
  obtain ⟨A4, c4, rfl⟩ := Kd.R_slice hT.2.2.2
  have HT4 := Lib.hid hT; clear hT
  go_wp2_with fail
  refine (types_at w _ _ _ 7 [⟨#[117, 115, 101, 114, 80, 97, 115, 115, 119, 111, 114, 100]⟩] HT4.out.set (by rw [HL4.out]; decide) _ _ (by simp) rfl _ rfl).mono ?_
  rintro e W5 ⟨v, rfl, hT⟩
  clear hc hf
  obtain ⟨ts5, hE⟩ : ∃ t, t = ts4 ++ tysOf 7 [⟨#[117, 115, 101, 114, 80, 97, 115, 115, 119, 111, 114, 100]⟩] := ⟨_, rfl⟩
  rw [← hE] at hT
  have HL5 : Hid (ts5.length = 11) := Lib.hid (by rw [hE]; simp [tysOf, HL4.out])
  have HE5 := Lib.hid hE; clear hE
  obtain ⟨hc, hf⟩ := tySt_cell hT
  obtain ⟨A5, c5, rfl⟩ := Kd.R_slice hT.2.2.2
  have HT5 := Lib.hid hT; clear hT
  go_wp2_with (first | ((at_builtin; refine TySt_append rfl (.tmp 36) (.tmp 38) rfl w _ (.slice A5 ts5.length c5) ts5 ⟨⟨#[101, 109, 112, 108, 111, 121, 101, 101, 78, 117, 109, 98, 101, 114]⟩, 4, true, false⟩ _ rfl rfl _ (by simp) rfl HT5.out.set (by rw [HL5.out]; decide) ?_; clear hc hf; intro A6 c6 W6 hT _; obtain ⟨ts6, hE⟩ : ∃ t, t = ts5 ++ [(⟨⟨#[101, 109, 112, 108, 111, 121, 101, 101, 78, 117, 109, 98, 101, 114]⟩, 4, true, false⟩ : S82)] := ⟨_, rfl⟩; rw [← hE] at hT ⊢; have HL6 : Hid (ts6.length = 12) := Lib.hid (by rw [hE]; simp [HL5.out]); have HE6 := Lib.hid hE; clear hE; obtain ⟨hc, hf⟩ := tySt_cell hT; have HT6 := Lib.hid hT; clear hT)) | ((at_builtin; refine TySt_append rfl (.tmp 42) (.tmp 44) rfl w _ (.slice A6 ts6.length c6) ts6 ⟨⟨#[97, 99, 116, 105, 118, 101]⟩, 5, true, false⟩ _ rfl rfl _ (by simp) rfl HT6.out.set (by rw [HL6.out]; decide) ?_; clear hc hf; intro A7 c7 W7 hT _; obtain ⟨ts7, hE⟩ : ∃ t, t = ts6 ++ [(⟨⟨#[97, 99, 116, 105, 118, 101]⟩, 5, true, false⟩ : S82)] := ⟨_, rfl⟩; rw [← hE] at hT ⊢; have HL7 : Hid (ts7.length = 13) := Lib.hid (by rw [hE]; simp [HL6.out]); have HE7 := Lib.hid hE; clear hE; obtain ⟨hc, hf⟩ := tySt_cell hT; have HT7 := Lib.hid hT; clear hT)))
  have hN : ((W7.setCell ⟨w.heap.size + 1, 0, none⟩ (Value.slice A7 ts7.length c7)).alloc (Obj.cells #[Value.string { data := #[99, 114, 101, 97, 116, 101, 100, 65, 116] }, Value.string { data := #[99, 104, 97, 110, 103, 101, 100, 65, 116] }, Value.string { data := #[112, 119, 100, 70, 97, 105, 108, 117, 114, 101] }, Value.string { data := #[112, 119, 100, 76, 111, 99, 107, 101, 100] }, Value.string { data := #[112, 119, 100, 67, 104, 97, 110, 103, 101, 100] }] 9)).heap[W7.heap.size]? = some (.cells #[Value.string { data := #[99, 114, 101, 97, 116, 101, 100, 65, 116] }, Value.string { data := #[99, 104, 97, 110, 103, 101, 100, 65, 116] }, Value.string { data := #[112, 119, 100, 70, 97, 105, 108, 117, 114, 101] }, Value.string { data := #[112, 119, 100, 76, 111, 99, 107, 101, 100] }, Value.string { data := #[112, 119, 100, 67, 104, 97, 110, 103, 101, 100] }] 9 (0, 0)) := by
    have := heap_alloc_new (W7.setCell ⟨w.heap.size + 1, 0, none⟩ (Value.slice A7 ts7.length c7)) (Obj.cells #[Value.string { data := #[99, 114, 101, 97, 116, 101, 100, 65, 116] }, Value.string { data := #[99, 104, 97, 110, 103, 101, 100, 65, 116] }, Value.string { data := #[112, 119, 100, 70, 97, 105, 108, 117, 114, 101] }, Value.string { data := #[112, 119, 100, 76, 111, 99, 107, 101, 100] }, Value.string { data := #[112, 119, 100, 67, 104, 97, 110, 103, 101, 100] }] 9)
    simpa using this
  have hT8 := (HT7.out.set).alloc (Obj.cells #[Value.string { data := #[99, 114, 101, 97, 116, 101, 100, 65, 116] }, Value.string { data := #[99, 104, 97, 110, 103, 101, 100, 65, 116] }, Value.string { data := #[112, 119, 100, 70, 97, 105, 108, 117, 114, 101] }, Value.string { data := #[112, 119, 100, 76, 111, 99, 107, 101, 100] }, Value.string { data := #[112, 119, 100, 67, 104, 97, 110, 103, 101, 100] }] 9)
  generalize ((W7.setCell ⟨w.heap.size + 1, 0, none⟩ (Value.slice A7 ts7.length c7)).alloc (Obj.cells #[Value.string { data := #[99, 114, 101, 97, 116, 101, 100, 65, 116] }, Value.string { data := #[99, 104, 97, 110, 103, 101, 100, 65, 116] }, Value.string { data := #[112, 119, 100, 70, 97, 105, 108, 117, 114, 101] }, Value.string { data := #[112, 119, 100, 76, 111, 99, 107, 101, 100] }, Value.string { data := #[112, 119, 100, 67, 104, 97, 110, 103, 101, 100] }] 9)) = W8 at hN hT8 ⊢
  obtain ⟨g, hg⟩ : ∃ g, g = W7.heap.size := ⟨_, rfl⟩
  rw [← hg] at hN ⊢
  have HG : Hid (g ≠ w.heap.size + 1) := Lib.hid (by have := blk_lt HT7.out.2.2.1; omega)
  have HT8 := Lib.hid hT8
  have HN := Lib.hid hN
  clear hT8 hN hc hf HT7 HT6 HT5 HT4 HT3 HT2 HT1 HT0 hg
  go_loopw [49] (fun i wr => ∃ k : Nat, k ≤ 5 ∧ i = .int .i64 k ∧ wr.heap[g]? = some (.cells #[Value.string { data := #[99, 114, 101, 97, 116, 101, 100, 65, 116] }, Value.string { data := #[99, 104, 97, 110, 103, 101, 100, 65, 116] }, Value.string { data := #[112, 119, 100, 70, 97, 105, 108, 117, 114, 101] }, Value.string { data := #[112, 119, 100, 76, 111, 99, 107, 101, 100] }, Value.string { data := #[112, 119, 100, 67, 104, 97, 110, 103, 101, 100] }] 9 (0, 0)) ∧ ∃ A c, TySt w (ts7 ++ coreOps.take k) (.slice A (ts7 ++ coreOps.take k).length c) (.slice A (ts7 ++ coreOps.take k).length c) wr) (fun i _ => 5 - (intOf i).toNat)
  case atStart => exact ⟨0, by omega, rfl, HN.out, A7, c7, by simpa using HT8.out⟩
  case round =>
    clear HT8 HN
    obtain ⟨k, hk, rfl, hN, A, c, hT⟩ := hrel
    have hn := fun j => blk_cell hN j
    obtain ⟨hc, hf⟩ := tySt_cell hT
    have hts : k < 5 → ts7 ++ coreOps.take (k + 1) = (ts7 ++ coreOps.take k) ++ [coreOps.getD k PTruthCovers.z82] := by
      intro hk
      rw [take_snoc coreOps k (by simpa [coreOps] using hk) PTruthCovers.z82, List.append_assoc]
    have hl : (ts7 ++ coreOps.take k).length ≤ 100 := by simp [HL7.out]; omega
    by_cases hlt : k < 5
    · have hts := hts hlt
      have HTS := Lib.hid hts
      clear hts
      generalize ts7 ++ coreOps.take k = tk at hT hc HTS hl
      have HN := Lib.hid hN
      have HT := Lib.hid hT
      have HL := Lib.hid hl
      have hz := blk_lt hT.2.2.1
      clear hN hT hl
      have h5 : k = 0 ∨ k = 1 ∨ k = 2 ∨ k = 3 ∨ k = 4 := by omega
      have hn0 := hn 0
      have hn1 := hn 1
      have hn2 := hn 2
      have hn3 := hn 3
      have hn4 := hn 4
      clear hn
      simp at hn0 hn1 hn2 hn3 hn4
      rcases h5 with rfl | rfl | rfl | rfl | rfl
      · go_wp2_with ((at_builtin; refine TySt_append rfl (.tmp 60) (.tmp 62) rfl w _ (.slice A tk.length c) tk ⟨⟨#[99, 114, 101, 97, 116, 101, 100, 65, 116]⟩, 4, true, true⟩ _ rfl rfl _ ?g rfl ?T ?L ?_; (case T => exact HT.out.below (by repeat (first | exact Below.refl _ _ | refine below_alloc ?_ _ | refine Below.setCell ?_ (by simp) _))); (case g => simp); (case L => have := HL.out; omega); intro A' c' w1 hT' hfar; have hN' := hfar g _ _ (((by repeat (first | exact Below.refl _ _ | refine below_alloc ?_ _ | refine Below.setCell ?_ (by simp) _) : Below wr.heap.size wr _).block g (blk_lt HN.out)).trans HN.out) (by decide); clear hfar hc hf; obtain ⟨hc, hf⟩ := tySt_cell hT'; have HN' := Lib.hid hN'; have HT' := Lib.hid hT'; clear hN' hT'))
        go_roundw
        have e : coreOps.getD 0 PTruthCovers.z82 = ⟨⟨#[99, 114, 101, 97, 116, 101, 100, 65, 116]⟩, 4, true, true⟩ := rfl
        case rel => exact ⟨0 + 1, by omega, by go_num, blk_far HN'.out HG.out _, A', c', by rw [HTS.out, e]; have h' := HT'.out.set; simp only [List.length_append, List.length_cons, List.length_nil, Nat.zero_add] at h' ⊢; exact h'⟩
        case measure => simp [intOf]
      · go_wp2_with ((at_builtin; refine TySt_append rfl (.tmp 60) (.tmp 62) rfl w _ (.slice A tk.length c) tk ⟨⟨#[99, 104, 97, 110, 103, 101, 100, 65, 116]⟩, 4, true, true⟩ _ rfl rfl _ ?g rfl ?T ?L ?_; (case T => exact HT.out.below (by repeat (first | exact Below.refl _ _ | refine below_alloc ?_ _ | refine Below.setCell ?_ (by simp) _))); (case g => simp); (case L => have := HL.out; omega); intro A' c' w1 hT' hfar; have hN' := hfar g _ _ (((by repeat (first | exact Below.refl _ _ | refine below_alloc ?_ _ | refine Below.setCell ?_ (by simp) _) : Below wr.heap.size wr _).block g (blk_lt HN.out)).trans HN.out) (by decide); clear hfar hc hf; obtain ⟨hc, hf⟩ := tySt_cell hT'; have HN' := Lib.hid hN'; have HT' := Lib.hid hT'; clear hN' hT'))
        go_roundw
        have e : coreOps.getD 1 PTruthCovers.z82 = ⟨⟨#[99, 104, 97, 110, 103, 101, 100, 65, 116]⟩, 4, true, true⟩ := rfl
        case rel => exact ⟨1 + 1, by omega, by go_num, blk_far HN'.out HG.out _, A', c', by rw [HTS.out, e]; have h' := HT'.out.set; simp only [List.length_append, List.length_cons, List.length_nil, Nat.zero_add] at h' ⊢; exact h'⟩
        case measure => simp [intOf]
      · go_wp2_with ((at_builtin; refine TySt_append rfl (.tmp 60) (.tmp 62) rfl w _ (.slice A tk.length c) tk ⟨⟨#[112, 119, 100, 70, 97, 105, 108, 117, 114, 101]⟩, 3, false, true⟩ _ rfl rfl _ ?g rfl ?T ?L ?_; (case T => exact HT.out.below (by repeat (first | exact Below.refl _ _ | refine below_alloc ?_ _ | refine Below.setCell ?_ (by simp) _))); (case g => simp); (case L => have := HL.out; omega); intro A' c' w1 hT' hfar; have hN' := hfar g _ _ (((by repeat (first | exact Below.refl _ _ | refine below_alloc ?_ _ | refine Below.setCell ?_ (by simp) _) : Below wr.heap.size wr _).block g (blk_lt HN.out)).trans HN.out) (by decide); clear hfar hc hf; obtain ⟨hc, hf⟩ := tySt_cell hT'; have HN' := Lib.hid hN'; have HT' := Lib.hid hT'; clear hN' hT'))
        go_roundw
        have e : coreOps.getD 2 PTruthCovers.z82 = ⟨⟨#[112, 119, 100, 70, 97, 105, 108, 117, 114, 101]⟩, 3, false, true⟩ := rfl
        case rel => exact ⟨2 + 1, by omega, by go_num, blk_far HN'.out HG.out _, A', c', by rw [HTS.out, e]; have h' := HT'.out.set; simp only [List.length_append, List.length_cons, List.length_nil, Nat.zero_add] at h' ⊢; exact h'⟩
        case measure => simp [intOf]
      · go_wp2_with ((at_builtin; refine TySt_append rfl (.tmp 60) (.tmp 62) rfl w _ (.slice A tk.length c) tk ⟨⟨#[112, 119, 100, 76, 111, 99, 107, 101, 100]⟩, 4, true, true⟩ _ rfl rfl _ ?g rfl ?T ?L ?_; (case T => exact HT.out.below (by repeat (first | exact Below.refl _ _ | refine below_alloc ?_ _ | refine Below.setCell ?_ (by simp) _))); (case g => simp); (case L => have := HL.out; omega); intro A' c' w1 hT' hfar; have hN' := hfar g _ _ (((by repeat (first | exact Below.refl _ _ | refine below_alloc ?_ _ | refine Below.setCell ?_ (by simp) _) : Below wr.heap.size wr _).block g (blk_lt HN.out)).trans HN.out) (by decide); clear hfar hc hf; obtain ⟨hc, hf⟩ := tySt_cell hT'; have HN' := Lib.hid hN'; have HT' := Lib.hid hT'; clear hN' hT'))
        go_roundw
        have e : coreOps.getD 3 PTruthCovers.z82 = ⟨⟨#[112, 119, 100, 76, 111, 99, 107, 101, 100]⟩, 4, true, true⟩ := rfl
        case rel => exact ⟨3 + 1, by omega, by go_num, blk_far HN'.out HG.out _, A', c', by rw [HTS.out, e]; have h' := HT'.out.set; simp only [List.length_append, List.length_cons, List.length_nil, Nat.zero_add] at h' ⊢; exact h'⟩
        case measure => simp [intOf]
      · go_wp2_with ((at_builtin; refine TySt_append rfl (.tmp 60) (.tmp 62) rfl w _ (.slice A tk.length c) tk ⟨⟨#[112, 119, 100, 67, 104, 97, 110, 103, 101, 100]⟩, 4, true, true⟩ _ rfl rfl _ ?g rfl ?T ?L ?_; (case T => exact HT.out.below (by repeat (first | exact Below.refl _ _ | refine below_alloc ?_ _ | refine Below.setCell ?_ (by simp) _))); (case g => simp); (case L => have := HL.out; omega); intro A' c' w1 hT' hfar; have hN' := hfar g _ _ (((by repeat (first | exact Below.refl _ _ | refine below_alloc ?_ _ | refine Below.setCell ?_ (by simp) _) : Below wr.heap.size wr _).block g (blk_lt HN.out)).trans HN.out) (by decide); clear hfar hc hf; obtain ⟨hc, hf⟩ := tySt_cell hT'; have HN' := Lib.hid hN'; have HT' := Lib.hid hT'; clear hN' hT'))
        go_roundw
        have e : coreOps.getD 4 PTruthCovers.z82 = ⟨⟨#[112, 119, 100, 67, 104, 97, 110, 103, 101, 100]⟩, 4, true, true⟩ := rfl
        case rel => exact ⟨4 + 1, by omega, by go_num, blk_far HN'.out HG.out _, A', c', by rw [HTS.out, e]; have h' := HT'.out.set; simp only [List.length_append, List.length_cons, List.length_nil, Nat.zero_add] at h' ⊢; exact h'⟩
        case measure => simp [intOf]
    · have h5 : k = 5 := by omega
      subst h5
      have hs0 := ClSt.start hT
      obtain ⟨ts8, hE⟩ : ∃ t, t = ts7 ++ coreOps.take 5 := ⟨_, rfl⟩
      rw [← hE] at hs0 hc
      have HE8 := Lib.hid hE; clear hE
      obtain ⟨A8, hA8⟩ : ∃ A8, A8 = A := ⟨_, rfl⟩
      obtain ⟨c8, hc8⟩ : ∃ c8, c8 = c := ⟨_, rfl⟩
      rw [← hA8, ← hc8] at hs0 hc
      clear hT hn hN hts hl hA8 hc8 hc hf
      obtain ⟨hc, hf⟩ := clSt_cell hs0
      have HS0 := Lib.hid hs0
      clear hs0 hlt hk
      go_wp2_with (first | (have hguard := HS0; at_builtin; refine ClSt_both rfl (.tmp 67) (.tmp 71) rfl w _ ts8 (.slice A8 ts8.length c8) (.slice none 0 0) ([] : List S113) ⟨#[116, 111, 112]⟩ ⟨#[]⟩ 0 [⟨#[111, 98, 106, 101, 99, 116, 67, 108, 97, 115, 115]⟩] [⟨#[99, 114, 101, 97, 116, 101, 100, 65, 116]⟩, ⟨#[99, 104, 97, 110, 103, 101, 100, 65, 116]⟩, ⟨#[112, 119, 100, 70, 97, 105, 108, 117, 114, 101]⟩, ⟨#[112, 119, 100, 76, 111, 99, 107, 101, 100]⟩, ⟨#[112, 119, 100, 67, 104, 97, 110, 103, 101, 100]⟩] _ _ rfl rfl _ _ _ _ _ (by simp) (by simp) (by simp) rfl rfl (by simp) (by simp) rfl rfl HS0.out (by first | simp | (rw [HC0.out]; decide)) ?_; intro B0 d0 X0 hT; clear hc hf; obtain ⟨cs0, hE⟩ : ∃ t, t = ([] : List S113) ++ [(⟨⟨#[116, 111, 112]⟩, ⟨#[]⟩, 0, [⟨#[111, 98, 106, 101, 99, 116, 67, 108, 97, 115, 115]⟩], [⟨#[99, 114, 101, 97, 116, 101, 100, 65, 116]⟩, ⟨#[99, 104, 97, 110, 103, 101, 100, 65, 116]⟩, ⟨#[112, 119, 100, 70, 97, 105, 108, 117, 114, 101]⟩, ⟨#[112, 119, 100, 76, 111, 99, 107, 101, 100]⟩, ⟨#[112, 119, 100, 67, 104, 97, 110, 103, 101, 100]⟩]⟩ : S113)] := ⟨_, rfl⟩; rw [← hE] at hT; have HC1 : Hid (cs0.length = 1) := Lib.hid (by rw [hE]; simp); have HF0 := Lib.hid hE; clear hE; obtain ⟨hc, hf⟩ := clSt_cell hT; have HS1 := Lib.hid hT; clear hT HS0 hguard) | (have hguard := HS1; at_builtin; refine ClSt_both rfl (.tmp 75) (.tmp 79) rfl w _ ts8 (.slice A8 ts8.length c8) (.slice B0 (([] : List S113).length + 1) d0) cs0 ⟨#[100, 111, 109, 97, 105, 110]⟩ ⟨#[116, 111, 112]⟩ 1 [⟨#[100, 99]⟩] [⟨#[100, 101, 115, 99, 114, 105, 112, 116, 105, 111, 110]⟩] _ _ rfl rfl _ _ _ _ _ (by simp) (by simp) (by simp) rfl rfl (by simp) (by simp) rfl rfl HS1.out.set (by first | simp | (rw [HC1.out]; decide)) ?_; intro B1 d1 X1 hT; clear hc hf; obtain ⟨cs1, hE⟩ : ∃ t, t = cs0 ++ [(⟨⟨#[100, 111, 109, 97, 105, 110]⟩, ⟨#[116, 111, 112]⟩, 1, [⟨#[100, 99]⟩], [⟨#[100, 101, 115, 99, 114, 105, 112, 116, 105, 111, 110]⟩]⟩ : S113)] := ⟨_, rfl⟩; rw [← hE] at hT; have HC2 : Hid (cs1.length = 2) := Lib.hid (by rw [hE]; simp [HC1.out]); have HF1 := Lib.hid hE; clear hE; obtain ⟨hc, hf⟩ := clSt_cell hT; have HS2 := Lib.hid hT; clear hT HS1 hguard) | (have hguard := HS2; at_builtin; refine ClSt_both rfl (.tmp 83) (.tmp 87) rfl w _ ts8 (.slice A8 ts8.length c8) (.slice B1 (cs0.length + 1) d1) cs1 ⟨#[111, 114, 103, 97, 110, 105, 122, 97, 116, 105, 111, 110]⟩ ⟨#[116, 111, 112]⟩ 1 [⟨#[111]⟩] [⟨#[100, 101, 115, 99, 114, 105, 112, 116, 105, 111, 110]⟩] _ _ rfl rfl _ _ _ _ _ (by simp) (by simp) (by simp) rfl rfl (by simp) (by simp) rfl rfl HS2.out.set (by first | simp | (rw [HC2.out]; decide)) ?_; intro B2 d2 X2 hT; clear hc hf; obtain ⟨cs2, hE⟩ : ∃ t, t = cs1 ++ [(⟨⟨#[111, 114, 103, 97, 110, 105, 122, 97, 116, 105, 111, 110]⟩, ⟨#[116, 111, 112]⟩, 1, [⟨#[111]⟩], [⟨#[100, 101, 115, 99, 114, 105, 112, 116, 105, 111, 110]⟩]⟩ : S113)] := ⟨_, rfl⟩; rw [← hE] at hT; have HC3 : Hid (cs2.length = 3) := Lib.hid (by rw [hE]; simp [HC2.out]); have HF2 := Lib.hid hE; clear hE; obtain ⟨hc, hf⟩ := clSt_cell hT; have HS3 := Lib.hid hT; clear hT HS2 hguard) | (have hguard := HS3; at_builtin; refine ClSt_both rfl (.tmp 91) (.tmp 95) rfl w _ ts8 (.slice A8 ts8.length c8) (.slice B2 (cs1.length + 1) d2) cs2 ⟨#[111, 114, 103, 97, 110, 105, 122, 97, 116, 105, 111, 110, 97, 108, 85, 110, 105, 116]⟩ ⟨#[116, 111, 112]⟩ 1 [⟨#[111, 117]⟩] [⟨#[100, 101, 115, 99, 114, 105, 112, 116, 105, 111, 110]⟩] _ _ rfl rfl _ _ _ _ _ (by simp) (by simp) (by simp) rfl rfl (by simp) (by simp) rfl rfl HS3.out.set (by first | simp | (rw [HC3.out]; decide)) ?_; intro B3 d3 X3 hT; clear hc hf; obtain ⟨cs3, hE⟩ : ∃ t, t = cs2 ++ [(⟨⟨#[111, 114, 103, 97, 110, 105, 122, 97, 116, 105, 111, 110, 97, 108, 85, 110, 105, 116]⟩, ⟨#[116, 111, 112]⟩, 1, [⟨#[111, 117]⟩], [⟨#[100, 101, 115, 99, 114, 105, 112, 116, 105, 111, 110]⟩]⟩ : S113)] := ⟨_, rfl⟩; rw [← hE] at hT; have HC4 : Hid (cs3.length = 4) := Lib.hid (by rw [hE]; simp [HC3.out]); have HF3 := Lib.hid hE; clear hE; obtain ⟨hc, hf⟩ := clSt_cell hT; have HS4 := Lib.hid hT; clear hT HS3 hguard) | (have hguard := HS4; at_builtin; refine ClSt_both rfl (.tmp 99) (.tmp 103) rfl w _ ts8 (.slice A8 ts8.length c8) (.slice B3 (cs2.length + 1) d3) cs3 ⟨#[112, 101, 114, 115, 111, 110]⟩ ⟨#[116, 111, 112]⟩ 1 [⟨#[99, 110]⟩, ⟨#[115, 110]⟩] [⟨#[100, 101, 115, 99, 114, 105, 112, 116, 105, 111, 110]⟩, ⟨#[117, 115, 101, 114, 80, 97, 115, 115, 119, 111, 114, 100]⟩] _ _ rfl rfl _ _ _ _ _ (by simp) (by simp) (by simp) rfl rfl (by simp) (by simp) rfl rfl HS4.out.set (by first | simp | (rw [HC4.out]; decide)) ?_; intro B4 d4 X4 hT; clear hc hf; obtain ⟨cs4, hE⟩ : ∃ t, t = cs3 ++ [(⟨⟨#[112, 101, 114, 115, 111, 110]⟩, ⟨#[116, 111, 112]⟩, 1, [⟨#[99, 110]⟩, ⟨#[115, 110]⟩], [⟨#[100, 101, 115, 99, 114, 105, 112, 116, 105, 111, 110]⟩, ⟨#[117, 115, 101, 114, 80, 97, 115, 115, 119, 111, 114, 100]⟩]⟩ : S113)] := ⟨_, rfl⟩; rw [← hE] at hT; have HC5 : Hid (cs4.length = 5) := Lib.hid (by rw [hE]; simp [HC4.out]); have HF4 := Lib.hid hE; clear hE; obtain ⟨hc, hf⟩ := clSt_cell hT; have HS5 := Lib.hid hT; clear hT HS4 hguard) | (have hguard := HS5; at_builtin; refine ClSt_may rfl (.tmp 107) (.tmp 110) rfl w _ ts8 (.slice A8 ts8.length c8) (.slice B4 (cs3.length + 1) d4) cs4 ⟨#[105, 110, 101, 116, 80, 101, 114, 115, 111, 110]⟩ ⟨#[112, 101, 114, 115, 111, 110]⟩ 1 [⟨#[117, 105, 100]⟩, ⟨#[109, 97, 105, 108]⟩, ⟨#[101, 109, 112, 108, 111, 121, 101, 101, 78, 117, 109, 98, 101, 114]⟩, ⟨#[97, 99, 116, 105, 118, 101]⟩] _ rfl _ _ _ (by simp) (by simp) rfl (by simp) rfl rfl HS5.out.set (by first | simp | (rw [HC5.out]; decide)) ?_; intro B5 d5 X5 hT; clear hc hf; obtain ⟨cs5, hE⟩ : ∃ t, t = cs4 ++ [(⟨⟨#[105, 110, 101, 116, 80, 101, 114, 115, 111, 110]⟩, ⟨#[112, 101, 114, 115, 111, 110]⟩, 1, [], [⟨#[117, 105, 100]⟩, ⟨#[109, 97, 105, 108]⟩, ⟨#[101, 109, 112, 108, 111, 121, 101, 101, 78, 117, 109, 98, 101, 114]⟩, ⟨#[97, 99, 116, 105, 118, 101]⟩]⟩ : S113)] := ⟨_, rfl⟩; rw [← hE] at hT; have HC6 : Hid (cs5.length = 6) := Lib.hid (by rw [hE]; simp [HC5.out]); have HF5 := Lib.hid hE; clear hE; obtain ⟨hc, hf⟩ := clSt_cell hT; have HS6 := Lib.hid hT; clear hT HS5 hguard) | (have hguard := HS6; at_builtin; refine ClSt_both rfl (.tmp 114) (.tmp 118) rfl w _ ts8 (.slice A8 ts8.length c8) (.slice B5 (cs4.length + 1) d5) cs5 ⟨#[103, 114, 111, 117, 112]⟩ ⟨#[116, 111, 112]⟩ 1 [⟨#[99, 110]⟩, ⟨#[109, 101, 109, 98, 101, 114]⟩] [⟨#[100, 101, 115, 99, 114, 105, 112, 116, 105, 111, 110]⟩] _ _ rfl rfl _ _ _ _ _ (by simp) (by simp) (by simp) rfl rfl (by simp) (by simp) rfl rfl HS6.out.set (by first | simp | (rw [HC6.out]; decide)) ?_; intro B6 d6 X6 hT; clear hc hf; obtain ⟨cs6, hE⟩ : ∃ t, t = cs5 ++ [(⟨⟨#[103, 114, 111, 117, 112]⟩, ⟨#[116, 111, 112]⟩, 1, [⟨#[99, 110]⟩, ⟨#[109, 101, 109, 98, 101, 114]⟩], [⟨#[100, 101, 115, 99, 114, 105, 112, 116, 105, 111, 110]⟩]⟩ : S113)] := ⟨_, rfl⟩; rw [← hE] at hT; have HC7 : Hid (cs6.length = 7) := Lib.hid (by rw [hE]; simp [HC6.out]); have HF6 := Lib.hid hE; clear hE; obtain ⟨hc, hf⟩ := clSt_cell hT; have HS7 := Lib.hid hT; clear hT HS6 hguard) | (have hguard := HS7; at_builtin; refine ClSt_must rfl (.tmp 122) (.tmp 125) rfl w _ ts8 (.slice A8 ts8.length c8) (.slice B6 (cs5.length + 1) d6) cs6 ⟨#[115, 101, 99, 117, 114, 101, 100]⟩ ⟨#[116, 111, 112]⟩ 2 [⟨#[117, 115, 101, 114, 80, 97, 115, 115, 119, 111, 114, 100]⟩] _ rfl _ _ _ (by simp) (by simp) rfl (by simp) rfl rfl HS7.out.set (by first | simp | (rw [HC7.out]; decide)) ?_; intro B7 d7 X7 hT; clear hc hf; obtain ⟨cs7, hE⟩ : ∃ t, t = cs6 ++ [(⟨⟨#[115, 101, 99, 117, 114, 101, 100]⟩, ⟨#[116, 111, 112]⟩, 2, [⟨#[117, 115, 101, 114, 80, 97, 115, 115, 119, 111, 114, 100]⟩], []⟩ : S113)] := ⟨_, rfl⟩; rw [← hE] at hT; have HC8 : Hid (cs7.length = 8) := Lib.hid (by rw [hE]; simp [HC7.out]); have HF7 := Lib.hid hE; clear hE; obtain ⟨hc, hf⟩ := clSt_cell hT; have HS8 := Lib.hid hT; clear hT HS7 hguard) | (have hguard := HS8; at_builtin; refine ClSt_may rfl (.tmp 129) (.tmp 132) rfl w _ ts8 (.slice A8 ts8.length c8) (.slice B7 (cs6.length + 1) d7) cs7 ⟨#[108, 97, 98, 101, 108, 108, 101, 100]⟩ ⟨#[116, 111, 112]⟩ 2 [⟨#[117, 105, 100]⟩, ⟨#[109, 97, 105, 108]⟩] _ rfl _ _ _ (by simp) (by simp) rfl (by simp) rfl rfl HS8.out.set (by first | simp | (rw [HC8.out]; decide)) ?_; intro B8 d8 X8 hT; clear hc hf; obtain ⟨cs8, hE⟩ : ∃ t, t = cs7 ++ [(⟨⟨#[108, 97, 98, 101, 108, 108, 101, 100]⟩, ⟨#[116, 111, 112]⟩, 2, [], [⟨#[117, 105, 100]⟩, ⟨#[109, 97, 105, 108]⟩]⟩ : S113)] := ⟨_, rfl⟩; rw [← hE] at hT; have HC9 : Hid (cs8.length = 9) := Lib.hid (by rw [hE]; simp [HC8.out]); have HF8 := Lib.hid hE; clear hE; obtain ⟨hc, hf⟩ := clSt_cell hT; obtain ⟨k1, k2, k3, k4, k5⟩ := clSt_all hT; have HS9 := Lib.hid hT; clear hT HS8 hguard))
      have hN := HS9.out.set
      obtain ⟨hB, -, -, hR1, hR2⟩ := hN
      have hR1' := Kd.R_far (Kd.R_far hR1 (p := ⟨w.heap.size, 0, none⟩) (fun k hk => hk.1) (Value.slice A8 ts8.length c8)) (p := ⟨w.heap.size, 1, none⟩) (fun k hk => hk.1) (Value.slice B8 (cs7.length + 1) d8)
      have hR2' := Kd.R_far (Kd.R_far hR2 (p := ⟨w.heap.size, 0, none⟩) (fun k hk => hk.1) (Value.slice A8 ts8.length c8)) (p := ⟨w.heap.size, 1, none⟩) (fun k hk => hk.1) (Value.slice B8 (cs7.length + 1) d8)
      have hB' := (hB.setCell (p := ⟨w.heap.size, 0, none⟩) (Nat.le_refl _) (Value.slice A8 ts8.length c8)).setCell (p := ⟨w.heap.size, 1, none⟩) (Nat.le_refl _) (Value.slice B8 (cs7.length + 1) d8)
      obtain ⟨P1, q1, e1, l1, C1⟩ := Kd.R_reads hR1'
      obtain ⟨P2, q2, e2, l2, C2⟩ := Kd.R_reads hR2'
      have t8 : ts8 = coreTypes := by rw [HE8.out, HE7.out, HE6.out, HE5.out, HE4.out, HE3.out, HE2.out, HE1.out, HE0.out]; rfl
      have t9 : cs8 = coreClasses := by rw [HF8.out, HF7.out, HF6.out, HF5.out, HF4.out, HF3.out, HF2.out, HF1.out, HF0.out]; rfl
      have n7 : cs7.length + 1 = 9 := by rw [HC8.out]
      clear HE8 HF8
      subst t8
      subst t9
      have n8 : coreTypes.length = 18 := rfl
      have n9 : coreClasses.length = 9 := rfl
      injection e1 with e1a e1b e1c
      injection e2 with e2a e2b e2c
      rw [← e1a] at C1
      rw [← e2a] at C2
      rw [← e1c, n8] at l1
      rw [← e2c, n9] at l2
      exact bodyPost_ret (v := .agg #[.slice A8 coreTypes.length c8, .slice B8 (cs7.length + 1) d8]) (by simp [results, Tryz.results25, go_sem, k2, k3]) rfl ⟨A8, c8, B8, d8, by rw [n8, n7], C1, C2, l1, l2, hB'⟩

end Go.Proofs.YtfdmmnajaebfeaaGreatDoor
