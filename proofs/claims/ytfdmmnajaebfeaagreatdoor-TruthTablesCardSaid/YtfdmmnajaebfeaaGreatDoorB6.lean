/- Proved here: the reference's reader reads one disjunction of two, if both are read. -/
import Derived.Test.YtfdmmnajaebfeaaGreatDoorB5
set_option linter.unusedVariables false
set_option linter.unusedSimpArgs false
set_option maxRecDepth 100000
namespace Go.Proofs.YtfdmmnajaebfeaaGreatDoor
open Go.RowKit Go.Proofs.YtfdmmnajaebfeaaGreatDoorW.PrintWords Go.Proofs.YtfdmmnajaebfeaaGreatDoorW.PrintLast Go.Proofs.YtfdmmnajaebfeaaGreatDoorW.PrintMore
open PTruthCovers (S82 S71 S36 S143 S113 S228 k82 k71 k36 k143 k113 k228 IsS177)

theorem RS.belowB {w0 w W W1 : World} {g : Nat} {t : ByteArray} {i n : Int} {B : Nat} (h : RS w0 w g t i n W) (hb : Below B W W1) (hg : g < B) (hw : w.heap.size ≤ B) (hww : w0.heap.size ≤ w.heap.size) : RS w0 w g t i n W1 :=
  ⟨⟨(hb.block g hg).trans h.1.1, h.1.2⟩, h.2.1.trans (hb.mono (Nat.le_trans hww hw)), ⟨Nat.le_trans h.2.2.1 hb.size, fun i hi hne hr => (hb.block i (by omega)).trans (h.2.2.2 i hi hne hr)⟩⟩

theorem own_drew_ {w W : World} (hb : Below w.heap.size w W) {base : Nat} {e : TypeId} {size n : Nat} {v : Value} {xs : List Value} (h : w.ownsRow base e size v n xs) : W.ownsRow base e size v n xs := pw_own_below h hb
theorem own_bsz {w : World} {B : Nat} {e : TypeId} {size n : Nat} {A : Option Addr} {c : Nat} {xs : List Value} (h : w.ownsRow B e size (.slice A (n + 1) c) (n + 1) xs) : B ≤ w.heap.size := by
  cases hk : (Value.slice A (n + 1) c).ownBlock with
  | none =>
    rcases h.2 with ⟨he, h0⟩ | ⟨g, cap, cur, he, _⟩
    · omega
    · rw [he] at hk; simp [Value.ownBlock] at hk
  | some k => have := own_base h k hk; have := own_lt h k hk; omega
set_option maxHeartbeats 8000000 in
theorem filter_or (w0 : World) (g : Nat) (n n1 m1 m2 d ka kb : Int) (a1 b1 a2 b2 : ByteArray) (hn : 0 ≤ n ∧ n < 1000) (hn1 : n1 = n + 1) (hd : 0 ≤ d ∧ d ≤ 63)
    (hI : FiltAt w0 g (⟨#[40, 124, 40, 122, 122, 61, 120, 41, 40, 99, 110, 61, 97, 41, 41]⟩ : ByteArray) 2 8 n1 m1 (d + 1) (.agg #[.int .i64 ka, .string a1, .string b1, .slice none 0 0, .slice none 0 0]))
    (hJ : FiltAt w0 g (⟨#[40, 124, 40, 122, 122, 61, 120, 41, 40, 99, 110, 61, 97, 41, 41]⟩ : ByteArray) 8 14 m1 m2 (d + 1) (.agg #[.int .i64 kb, .string a2, .string b2, .slice none 0 0, .slice none 0 0]))
    (w : World) (hR : RS w0 w g (⟨#[40, 124, 40, 122, 122, 61, 120, 41, 40, 99, 110, 61, 97, 41, 41]⟩ : ByteArray) 0 n w) :
    Calls Tryz.prog 112 #[.pointer (some ⟨g, 0, none⟩), .int .i64 d] w fun e w' => ∃ vK, e = .returned (.agg #[.int .i64 1, .string ⟨#[]⟩, .string ⟨#[]⟩, .slice none 0 0, vK]) ∧ RS w0 w g (⟨#[40, 124, 40, 122, 122, 61, 120, 41, 40, 99, 110, 61, 97, 41, 41]⟩ : ByteArray) 15 m2 w' ∧ ∃ B, w.heap.size ≤ B ∧ w'.ownsRow B 36 5 vK 2 ([.int .i64 ka, .string a1, .string b1, .slice none 0 0, .slice none 0 0] ++ [.int .i64 kb, .string a2, .string b2, .slice none 0 0, .slice none 0 0]) := by
  have hgz := hR.cells.2.2.2.2.2.2
  have hwz := hR.2.1.size
  have HR := Lib.hid hR
  have HI := Lib.hid hI
  have HJ := Lib.hid hJ
  clear hR hI hJ
  go_enter Tryz.func112, Tryz.ntmps112
  go_wp2_with fail
  have hR1 := HR.out.below (below_alloc (Below.refl _ _) (Obj.cells #[Value.int IntKind.i64 0, Value.string { data := #[] }, Value.string { data := #[] }, Value.slice none 0 0, Value.slice none 0 0] 36))
  have hE := heap_alloc_new w (Obj.cells #[Value.int IntKind.i64 0, Value.string { data := #[] }, Value.string { data := #[] }, Value.slice none 0 0, Value.slice none 0 0] 36)
  have hneE : w.heap.size ≠ g := by omega
  have HE := Lib.hid hE; clear hE
  refine (hR1.is 40 true 1 (isF_yes (by decide) (by decide) (by decide) (by unfold wrap64; omega))).mono ?_
  clear hR1
  rintro e W1 ⟨rfl, hR1, hK⟩
  have HE1 := Lib.hid (hK.blk HE.out hneE (by simp))
  obtain ⟨c0, c1, c2, c3, c4, c5, hg⟩ := hR1.cells
  have HR1 := Lib.hid hR1
  clear hR1 hK HE
  go_wp2_with fail
  have hR2 : RS w0 w g (⟨#[40, 124, 40, 122, 122, 61, 120, 41, 40, 99, 110, 61, 97, 41, 41]⟩ : ByteArray) 1 n1 (W1.setCell ⟨g, 2, none⟩ (.int .i64 (n + 1))) := by rw [hn1]; exact HR1.out.set2 (n + 1)
  have hE2 := blk_far HE1.out hneE (.int .i64 (n + 1)) (p := ⟨g, 2, none⟩)
  generalize W1.setCell ⟨g, 2, none⟩ (.int .i64 (n + 1)) = W2 at *
  have HR2 := Lib.hid hR2
  have HE2 := Lib.hid hE2
  clear hR2 hE2 c0 c1 c2 c3 c4 c5 hg HE1 HR1
  have HN1 := Lib.hid hn1
  clear hn1
  go_loopw [5] (fun v wr => ∃ i : Nat, i ≤ 1 ∧ v = .int .i64 i ∧ RS w0 w g (⟨#[40, 124, 40, 122, 122, 61, 120, 41, 40, 99, 110, 61, 97, 41, 41]⟩ : ByteArray) 1 n1 wr ∧ wr.heap[w.heap.size]? = some (.cells #[Value.int IntKind.i64 0, Value.string { data := #[] }, Value.string { data := #[] }, Value.slice none 0 0, Value.slice none 0 0] 36 (0, 0))) (fun v _ => 3 - (intOf v).toNat)
  case atStart => exact ⟨0, by omega, rfl, HR2.out, HE2.out⟩
  case round =>
    clear HR2 HE2
    obtain ⟨i, hi, rfl, hR, hE⟩ := hrel
    have hi4 : i = 0 ∨ i = 1 := by omega
    have HR := Lib.hid hR
    have HE := Lib.hid hE
    clear hR hE
    have hx0 : (⟨#[38, 124, 33]⟩ : ByteArray)[0]'(by decide) = 38 := by decide
    have hx1 : (⟨#[38, 124, 33]⟩ : ByteArray)[1]'(by decide) = 124 := by decide
    have hy0 : (38 : UInt8).toNat = 38 := rfl
    have hy1 : (124 : UInt8).toNat = 124 := rfl
    rcases hi4 with rfl | rfl
    · go_wp2_with fail
      refine (HR.out.is 38 false 1 (isF_no (by decide) (by decide) (by decide))).mono ?_
      rintro e W4 ⟨rfl, hR, hK⟩
      have HE4 := Lib.hid (hK.blk HE.out hneE (by simp))
      have HR4 := Lib.hid hR
      clear hR hK
      go_wp2
      go_roundw
      case rel => exact ⟨1, by omega, by go_num, HR4.out, HE4.out⟩
      case measure => simp [intOf]
    · go_wp2_with fail
      refine (HR.out.is 124 true 2 (isF_yes (by decide) (by decide) (by decide) (by unfold wrap64; omega))).mono ?_
      rintro e W4 ⟨rfl, hR, hK⟩
      have HE4 := Lib.hid (hK.blk HE.out hneE (by simp))
      have HR4 := Lib.hid hR
      clear hR hK
      go_wp2_with fail
      have hR5 := HR4.out.below (below_alloc (Below.refl _ _) (Obj.cells #[Value.int IntKind.i64 1, Value.string { data := #[] }, Value.string { data := #[] }, Value.slice none 0 0, Value.slice none 0 0] 36))
      have hE5 := (below_alloc (Below.refl _ W4) (Obj.cells #[Value.int IntKind.i64 1, Value.string { data := #[] }, Value.string { data := #[] }, Value.slice none 0 0, Value.slice none 0 0] 36)).block _ (blk_lt HE4.out) |>.trans HE4.out
      have hF5 := heap_alloc_new W4 (Obj.cells #[Value.int IntKind.i64 1, Value.string { data := #[] }, Value.string { data := #[] }, Value.slice none 0 0, Value.slice none 0 0] 36)
      obtain ⟨e1, he1⟩ : ∃ e1, e1 = W4.heap.size := ⟨_, rfl⟩
      have hne : e1 ≠ g := by have := HR4.out.cells.2.2.2.2.2.2; omega
      have hege : w.heap.size ≤ e1 := by have := blk_lt HE4.out; omega
      have hew : e1 ≠ w.heap.size := by have := blk_lt HE4.out; omega
      rw [← he1] at hF5 ⊢
      generalize W4.alloc (Obj.cells #[Value.int IntKind.i64 1, Value.string { data := #[] }, Value.string { data := #[] }, Value.slice none 0 0, Value.slice none 0 0] 36) = W5 at *
      have HR5 := Lib.hid hR5
      have HE5 := Lib.hid hE5
      have HF5 := Lib.hid hF5
      clear hR5 hE5 hF5 HE4 HR4 HE HR he1
      go_loopw [54] (fun _ wr => wr.heap[w.heap.size]? = some (.cells #[Value.int IntKind.i64 0, Value.string { data := #[] }, Value.string { data := #[] }, Value.slice none 0 0, Value.slice none 0 0] 36 (0, 0)) ∧ ((RS w0 w g (⟨#[40, 124, 40, 122, 122, 61, 120, 41, 40, 99, 110, 61, 97, 41, 41]⟩ : ByteArray) 2 n1 wr ∧ wr.heap[e1]? = some (.cells #[Value.int IntKind.i64 1, Value.string { data := #[] }, Value.string { data := #[] }, Value.slice none 0 0, Value.slice none 0 0] 36 (0, 0)))
        ∨ (RS w0 w g (⟨#[40, 124, 40, 122, 122, 61, 120, 41, 40, 99, 110, 61, 97, 41, 41]⟩ : ByteArray) 8 m1 wr ∧ ∃ A c B, g < B ∧ e1 < B ∧ wr.heap[e1]? = some (.cells #[Value.int IntKind.i64 1, Value.string { data := #[] }, Value.string { data := #[] }, Value.slice none 0 0, Value.slice A 1 c] 36 (0, 0)) ∧ wr.ownsRow B 36 5 (.slice A 1 c) 1 [.int .i64 ka, .string a1, .string b1, .slice none 0 0, .slice none 0 0])
        ∨ (RS w0 w g (⟨#[40, 124, 40, 122, 122, 61, 120, 41, 40, 99, 110, 61, 97, 41, 41]⟩ : ByteArray) 14 m2 wr ∧ ∃ A c B, g < B ∧ e1 < B ∧ wr.heap[e1]? = some (.cells #[Value.int IntKind.i64 1, Value.string { data := #[] }, Value.string { data := #[] }, Value.slice none 0 0, Value.slice A 2 c] 36 (0, 0)) ∧ wr.ownsRow B 36 5 (.slice A 2 c) 2 ([.int .i64 ka, .string a1, .string b1, .slice none 0 0, .slice none 0 0] ++ [.int .i64 kb, .string a2, .string b2, .slice none 0 0, .slice none 0 0])))) (fun _ wr => 20 - rdAt g wr)
      case atStart => exact ⟨HE5.out, .inl ⟨HR5.out, HF5.out⟩⟩
      case round =>
        clear HE5 HR5 HF5
        have hone1 : ∀ u ∈ ([.int .i64 ka, .string a1, .string b1, .slice none 0 0, .slice none 0 0] : List Value), u.oneCell' = true := by intro u hu; simp at hu; rcases hu with rfl | rfl | rfl | rfl <;> rfl
        have hone2 : ∀ u ∈ ([.int .i64 kb, .string a2, .string b2, .slice none 0 0, .slice none 0 0] : List Value), u.oneCell' = true := by intro u hu; simp at hu; rcases hu with rfl | rfl | rfl | rfl <;> rfl
        have hwd : IntKind.i64.wrap (d + 1) = d + 1 := IntWalk.i64_in _ (by omega)
        have hi2 : (⟨#[40, 124, 40, 122, 122, 61, 120, 41, 40, 99, 110, 61, 97, 41, 41]⟩ : ByteArray)[2]'(by decide) = 40 := by decide
        have hi8 : (⟨#[40, 124, 40, 122, 122, 61, 120, 41, 40, 99, 110, 61, 97, 41, 41]⟩ : ByteArray)[8]'(by decide) = 40 := by decide
        have hi14 : (⟨#[40, 124, 40, 122, 122, 61, 120, 41, 40, 99, 110, 61, 97, 41, 41]⟩ : ByteArray)[14]'(by decide) = 41 := by decide
        have hj40 : (40 : UInt8).toNat = 40 := rfl
        have hj41 : (41 : UInt8).toNat = 41 := rfl
        have hlt : decide ((1 : Int) < 2) = true := by decide
        obtain ⟨hE, ⟨hR, hF⟩ | ⟨hR, A, c, B, hgB, heB, hF, hO⟩ | ⟨hR, A, c, B, hgB, heB, hF, hO⟩⟩ := hrel
        · have HE := Lib.hid hE
          have HF := Lib.hid hF
          have HR := Lib.hid hR
          obtain ⟨c0, c1, c2, c3, c4, c5, hg⟩ := hR.cells
          obtain ⟨f0, f1, f2, f3, f4, ff0, ff1, ff2, ff3, ff4, fl⟩ := facts36 hF
          clear hE hF hR
          go_wp2_with fail
          go_region_held3 (fun w' => w'.cell? ⟨g, 1, none⟩ = some (.int .i64 2) ∧ w'.cell? ⟨g, 0, none⟩ = some (.string (⟨#[40, 124, 40, 122, 122, 61, 120, 41, 40, 99, 110, 61, 97, 41, 41]⟩ : ByteArray)) ∧ w'.cell? ⟨g, 3, none⟩ = some (.int .i64 0)) (go_keep) (fail)
          go_wp2_with fail
          obtain ⟨Wd, hWd⟩ : ∃ Wd, Wd = wr.drew := ⟨_, rfl⟩
          rw [← hWd]
          have hbd : Below wr.heap.size wr Wd := by rw [hWd]; exact (Below.refl _ _).drew
          have hRd := HR.out.below hbd
          have hEd := (hbd.block _ (blk_lt HE.out)).trans HE.out
          have hFd := (hbd.block _ (blk_lt HF.out)).trans HF.out
          clear c0 c1 c2 c3 c4 c5 hg f0 f1 f2 f3 f4 ff0 ff1 ff2 ff3 ff4 fl hWd hbd
          obtain ⟨f0, f1, f2, f3, f4, ff0, ff1, ff2, ff3, ff4, fl⟩ := facts36 hFd
          have HR5 := Lib.hid hRd
          have HE5 := Lib.hid hEd
          have HF5 := Lib.hid hFd
          clear hRd hEd hFd HE HF
          go_region_law (first | (have hguard := HF6; refine step_append_cells (w0 := W6) (W := W6) W6.heap.size (by rfl) (.tmp 86) (.tmp 91) 34 36 (.agg #[.int .i64 0, .string ⟨#[]⟩, .string ⟨#[]⟩, .slice none 0 0, .slice none 0 0]) 5 88 (by rfl) Tryz.underlying34 info36 rfl (by decide) (by decide) (.slice none 0 0) 0 [] [.int .i64 ka, .string a1, .string b1, .slice none 0 0, .slice none 0 0] (by rfl) (by rfl) rfl hone1 (own_nil _ _ _ _) (Below.refl _ _) (Nat.le_refl _) (by decide) ?_; intro v1 w1 ho hb hg hat; clear hg hat; (obtain ⟨Ak, ck, hvk⟩ := own_slice ho); subst hvk; have hF7 := (hb.block _ (blk_lt HF6.out)).trans HF6.out; have hE7 := (hb.block _ (blk_lt HE6.out)).trans HE6.out; have hR7 := HR6.out.below hb; (obtain ⟨k0, k1, k2, k3, k4, kk0, kk1, kk2, kk3, kk4, kl⟩ := facts36 hF7); have HR7 := Lib.hid hR7; have HE7 := Lib.hid hE7; have HF7 := Lib.hid hF7; have HO7 := Lib.hid ho; clear hR7 hE7 hF7 ho hb HF6 HE6 HR6 hguard g0 g1 g2 g3 g4 gg0 gg1 gg2 gg3 gg4) | (have hguard := HF5; go_simp; go_at_call 112; refine (HI.out _ (RS.refl_ (HR5.out.below ((Below.refl _ _).drew)))).mono ?_; rintro e W6 ⟨rfl, hR6⟩; have hF6 := hR6.2.2.blk HF5.out hne (by simp); have hE6 := hR6.2.2.blk HE5.out hneE (by simp); (obtain ⟨g0, g1, g2, g3, g4, gg0, gg1, gg2, gg3, gg4, gl⟩ := facts36 hF6); have HR6 := Lib.hid (RS.trans_ (HR5.out.below ((Below.refl _ _).drew)) hR6); have hgl := hR6.cells.2.2.2.2.2.2; have HE6 := Lib.hid hE6; have HF6 := Lib.hid hF6; clear hR6 hE6 hF6 HF5 hguard HE5 HR5 f0 f1 f2 f3 f4 ff0 ff1 ff2 ff3 ff4 fl))
          all_goals
            go_wp2_with fail
            go_roundw
            case rel => exact ⟨blk_far HE7.out (Ne.symm hew) _, .inr (.inl ⟨RS.far HR7.out hege hwz hne _, Ak, ck, W6.heap.size, hgl, gl, (by have h := blk_set HF7.out 4 (Value.slice Ak 1 ck); simpa using h), own_setCell HO7.out (p := ⟨e1, 4, none⟩) (fun h => by have := own_base HO7.out e1 h.symm; omega) _⟩)⟩
            case measure =>
              have h1 := HR.out.at_
              have h2 := (RS.far HR7.out hege hwz hne (Value.slice Ak 1 ck) (j := 4)).at_
              simp at h1 h2
              rw [h1]
              first | (rw [h2]; decide) | (simp; rw [h2]; decide)
        · have HE := Lib.hid hE
          have HF := Lib.hid hF
          have HR := Lib.hid hR
          have HO := Lib.hid hO
          clear hO
          obtain ⟨c0, c1, c2, c3, c4, c5, hg⟩ := hR.cells
          obtain ⟨f0, f1, f2, f3, f4, ff0, ff1, ff2, ff3, ff4, fl⟩ := facts36 hF
          clear hE hF hR
          go_wp2_with fail
          go_region_held3 (fun w' => w'.cell? ⟨g, 1, none⟩ = some (.int .i64 8) ∧ w'.cell? ⟨g, 0, none⟩ = some (.string (⟨#[40, 124, 40, 122, 122, 61, 120, 41, 40, 99, 110, 61, 97, 41, 41]⟩ : ByteArray)) ∧ w'.cell? ⟨g, 3, none⟩ = some (.int .i64 0)) (go_keep) (fail)
          go_wp2_with fail
          obtain ⟨Wd, hWd⟩ : ∃ Wd, Wd = wr.drew := ⟨_, rfl⟩
          rw [← hWd]
          have hbd : Below wr.heap.size wr Wd := by rw [hWd]; exact (Below.refl _ _).drew
          have hRd := HR.out.below hbd
          have hEd := (hbd.block _ (blk_lt HE.out)).trans HE.out
          have hFd := (hbd.block _ (blk_lt HF.out)).trans HF.out
          have HOd := Lib.hid (own_drew_ hbd HO.out)
          clear HO
          clear c0 c1 c2 c3 c4 c5 hg f0 f1 f2 f3 f4 ff0 ff1 ff2 ff3 ff4 fl hWd hbd
          obtain ⟨f0, f1, f2, f3, f4, ff0, ff1, ff2, ff3, ff4, fl⟩ := facts36 hFd
          have HR5 := Lib.hid hRd
          have HE5 := Lib.hid hEd
          have HF5 := Lib.hid hFd
          clear hRd hEd hFd HE HF
          go_region_law (first | (have hguard := HF6; refine step_append_cells (w0 := W6) (W := W6) B (by rfl) (.tmp 86) (.tmp 91) 34 36 (.agg #[.int .i64 0, .string ⟨#[]⟩, .string ⟨#[]⟩, .slice none 0 0, .slice none 0 0]) 5 88 (by rfl) Tryz.underlying34 info36 rfl (by decide) (by decide) (.slice A 1 c) 1 [.int .i64 ka, .string a1, .string b1, .slice none 0 0, .slice none 0 0] [.int .i64 kb, .string a2, .string b2, .slice none 0 0, .slice none 0 0] (by rfl) (by rfl) rfl hone2 HO6.out (Below.refl _ _) hBz (by decide) ?_; intro v1 w1 ho hb hg hat; clear hg hat; (obtain ⟨Ak, ck, hvk⟩ := own_slice ho); subst hvk; have hF7 := (hb.block _ heB).trans HF6.out; have hE7 := (hb.block _ (by omega)).trans HE6.out; have hR7 := HR6.out.belowB hb hgB (by omega) hwz; (obtain ⟨k0, k1, k2, k3, k4, kk0, kk1, kk2, kk3, kk4, kl⟩ := facts36 hF7); have HR7 := Lib.hid hR7; have HE7 := Lib.hid hE7; have HF7 := Lib.hid hF7; have HO7 := Lib.hid ho; clear hR7 hE7 hF7 ho hb HF6 HE6 HR6 hguard g0 g1 g2 g3 g4 gg0 gg1 gg2 gg3 gg4) | (have hguard := HF5; go_simp; go_at_call 112; refine (HJ.out _ (RS.refl_ (HR5.out.below ((Below.refl _ _).drew)))).mono ?_; rintro e W6 ⟨rfl, hR6⟩; have hF6 := hR6.2.2.blk HF5.out hne (by simp); have hE6 := hR6.2.2.blk HE5.out hneE (by simp); have HO6 := Lib.hid (hR6.2.2.own HOd.out (fun h => own_ne HOd.out HR5.out.1.1 (by decide) h.symm) (by cases h : (Value.slice A 1 c).ownBlock <;> simp)); have hBz : B ≤ W6.heap.size := own_bsz HO6.out; (obtain ⟨g0, g1, g2, g3, g4, gg0, gg1, gg2, gg3, gg4, gl⟩ := facts36 hF6); have HR6 := Lib.hid (RS.trans_ (HR5.out.below ((Below.refl _ _).drew)) hR6); have hgl := hR6.cells.2.2.2.2.2.2; have HE6 := Lib.hid hE6; have HF6 := Lib.hid hF6; clear hR6 hE6 hF6 HF5 hguard HE5 HR5 f0 f1 f2 f3 f4 ff0 ff1 ff2 ff3 ff4 fl))
          all_goals
            go_wp2_with fail
            go_roundw
            case rel => exact ⟨blk_far HE7.out (Ne.symm hew) _, .inr (.inr ⟨RS.far HR7.out hege hwz hne _, Ak, ck, B, hgB, heB, (by have h := blk_set HF7.out 4 (Value.slice Ak 2 ck); simpa using h), own_setCell HO7.out (p := ⟨e1, 4, none⟩) (fun h => by have := own_base HO7.out e1 h.symm; omega) _⟩)⟩
            case measure =>
              have h1 := HR.out.at_
              have h2 := (RS.far HR7.out hege hwz hne (Value.slice Ak 2 ck) (j := 4)).at_
              simp at h1 h2
              rw [h1]
              first | (rw [h2]; decide) | (simp; rw [h2]; decide)
        · have HE := Lib.hid hE
          have HF := Lib.hid hF
          have HR := Lib.hid hR
          have HO := Lib.hid hO
          obtain ⟨c0, c1, c2, c3, c4, c5, hg⟩ := hR.cells
          have hBw : w.heap.size < B := by omega
          clear hE hF hR hO
          go_wp2_with fail
          go_region_held3 (fun w' => w'.cell? ⟨g, 1, none⟩ = some (.int .i64 14) ∧ w'.cell? ⟨g, 0, none⟩ = some (.string (⟨#[40, 124, 40, 122, 122, 61, 120, 41, 40, 99, 110, 61, 97, 41, 41]⟩ : ByteArray)) ∧ w'.cell? ⟨g, 3, none⟩ = some (.int .i64 0)) (go_keep) (fail)
          go_wp2_with fail
          refine ((HR.out.below ((Below.refl _ _).drew)).is 41 true 15 (isF_yes (by decide) (by decide) (by decide) (by unfold wrap64; omega))).mono ?_
          rintro e W9 ⟨rfl, hR9, hK⟩
          have hF9 := hK.blk HF.out hne (by simp)
          have hE9 := hK.blk HE.out hneE (by simp)
          have hO9 := hK.own HO.out (fun h => own_ne HO.out HR.out.1.1 (by decide) h.symm) (by cases h : (Value.slice A 2 c).ownBlock <;> simp)
          obtain ⟨f0, f1, f2, f3, f4, ff0, ff1, ff2, ff3, ff4, fl⟩ := facts36 hF9
          obtain ⟨z0, z1, z2, z3, z4, zf0, zf1, zf2, zf3, zf4, zl⟩ := facts36 hE9
          have HR9 := Lib.hid hR9
          have HO9 := Lib.hid hO9
          have HB := Lib.hid hBw
          clear c0 c1 c2 c3 c4 c5 hg hR9 hO9 hF9 hE9 hK hBw
          go_wp2
          have hnb : some w.heap.size ≠ (Value.slice A 2 c).ownBlock := fun h => by have := own_base HO9.out _ h.symm; have := HB.out; omega
          exact bodyPost_ret (v := .agg #[.int .i64 1, .string ⟨#[]⟩, .string ⟨#[]⟩, .slice none 0 0, .slice A 2 c]) (by simp [results, Tryz.results112, go_sem, z0, z1, z2, z3, z4]) rfl ⟨_, rfl, RS.far (RS.far (RS.far (RS.far (RS.far HR9.out (Nat.le_refl _) hwz hneE _) (Nat.le_refl _) hwz hneE _) (Nat.le_refl _) hwz hneE _) (Nat.le_refl _) hwz hneE _) (Nat.le_refl _) hwz hneE _, B, Nat.le_of_lt HB.out, own_setCell (own_setCell (own_setCell (own_setCell (own_setCell HO9.out hnb _) hnb _) hnb _) hnb _) hnb _⟩
end Go.Proofs.YtfdmmnajaebfeaaGreatDoor
