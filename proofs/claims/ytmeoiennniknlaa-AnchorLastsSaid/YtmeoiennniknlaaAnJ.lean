/- The reference's Find. -/
import Derived.Test.YtmeoiennniknlaaAnI
namespace Go.Proofs.Ytmeoiennniknlaa.Anchor
open Go.RowKit Go.Shelf Go.Proofs.YtmeoiennniknlaaW.PrintWords Go.Proofs.Ytmeoiennniknlaa.Lb Go.Proofs.Ytmeoiennniknlaa.Sums
set_option linter.unusedVariables false
set_option linter.unusedSimpArgs false

set_option maxRecDepth 100000 in
set_option maxHeartbeats 4000000 in
theorem refFind_00 (W : World) (s0 s1 s2 s3 s4 s5 s6 s7 t0 t1 t2 t3 t4 t5 t6 t7 : Int) (x y : Anc) (o0 o1 : Bool) (gx : 0 ≤ x.n) (gy : 0 ≤ y.n) (k0 : o0 = false ∨ (o0 = true ∧ (x.n % 2 == 0) = false)) (k1 : o1 = false ∨ (o1 = true ∧ (y.n % 2 == 1) = false))
    (HA0 : ∀ V, Calls Try.prog 42 #[agg8 s0 s1 s2 s3 s4 s5 s6 s7] V fun en V' => en = .returned (.tuple #[agg4 x.n x.e x.a x.w, .bool o0]) ∧ Below V.heap.size V V')
    (HA1 : ∀ V, Calls Try.prog 42 #[agg8 t0 t1 t2 t3 t4 t5 t6 t7] V fun en V' => en = .returned (.tuple #[agg4 y.n y.e y.a y.w, .bool o1]) ∧ Below V.heap.size V V') :
    Calls Try.prog 48 #[agg8 s0 s1 s2 s3 s4 s5 s6 s7, agg8 t0 t1 t2 t3 t4 t5 t6 t7] W fun en W' => en = .returned (.tuple #[agg4 0 0 0 0, .bool false]) ∧ Below W.heap.size W W' := by
  have HA0 := Lib.hid HA0
  have HA1 := Lib.hid HA1
  obtain ⟨V, hV⟩ : ∃ V, V = ((W.alloc (.cells #[.int .u64 s0, .int .u64 s1, .int .u64 s2, .int .u64 s3, .int .u64 s4, .int .u64 s5, .int .u64 s6, .int .u64 s7] 59)).alloc (.cells #[.int .u64 t0, .int .u64 t1, .int .u64 t2, .int .u64 t3, .int .u64 t4, .int .u64 t5, .int .u64 t6, .int .u64 t7] 59)).alloc (.cells #[.int .i64 0, .int .i64 0, .int .i64 0, .int .i64 0] 58) := ⟨_, rfl⟩
  have HBV : Hid (Below W.heap.size W V) := by rw [hV]; exact Lib.hid ((((Below.refl _ W).alloc (Nat.le_refl _) _).alloc (by simp) _).alloc (by simp; omega) _)
  have BS : Hid (Blk V W.heap.size [.int .u64 s0, .int .u64 s1, .int .u64 s2, .int .u64 s3, .int .u64 s4, .int .u64 s5, .int .u64 s6, .int .u64 s7] 59) := by rw [hV]; exact Lib.hid (((Blk.new W [.int .u64 s0, .int .u64 s1, .int .u64 s2, .int .u64 s3, .int .u64 s4, .int .u64 s5, .int .u64 s6, .int .u64 s7] 59).alloc _).alloc _)
  have BT : Hid (Blk V (W.heap.size + 1) [.int .u64 t0, .int .u64 t1, .int .u64 t2, .int .u64 t3, .int .u64 t4, .int .u64 t5, .int .u64 t6, .int .u64 t7] 59) := by
    rw [hV]
    have h := (Blk.new (W.alloc (.cells #[.int .u64 s0, .int .u64 s1, .int .u64 s2, .int .u64 s3, .int .u64 s4, .int .u64 s5, .int .u64 s6, .int .u64 s7] 59)) [.int .u64 t0, .int .u64 t1, .int .u64 t2, .int .u64 t3, .int .u64 t4, .int .u64 t5, .int .u64 t6, .int .u64 t7] 59).alloc (.cells #[.int .i64 0, .int .i64 0, .int .i64 0, .int .i64 0] 58)
    rw [World.size_alloc] at h
    exact Lib.hid h
  have BV : Hid (Blk V (W.heap.size + 1 + 1) [.int .i64 0, .int .i64 0, .int .i64 0, .int .i64 0] 58) := by
    rw [hV]
    have h := Blk.new ((W.alloc (.cells #[.int .u64 s0, .int .u64 s1, .int .u64 s2, .int .u64 s3, .int .u64 s4, .int .u64 s5, .int .u64 s6, .int .u64 s7] 59)).alloc (.cells #[.int .u64 t0, .int .u64 t1, .int .u64 t2, .int .u64 t3, .int .u64 t4, .int .u64 t5, .int .u64 t6, .int .u64 t7] 59)) [.int .i64 0, .int .i64 0, .int .i64 0, .int .i64 0] 58
    rw [World.size_alloc, World.size_alloc] at h
    exact Lib.hid h
  have K0 := Lib.hid (Below.refl V.heap.size V)
  have cS := BS.out.cell
  have hgt : W.heap.size ≤ W.heap.size + 1 + 1 := by omega
  have HG := Lib.hid hgt
  clear hgt
  rcases k0 with rfl | ⟨rfl, j0⟩
  all_goals
    rcases k1 with rfl | ⟨rfl, j1⟩
  all_goals
    go_enter Try.func48, Try.ntmps48
    go_wp2_with fail
    rw [← hV]
    clear hV
    go_wp2_with (first
      | (go_at_call 42; (with_reducible refine (HA0.out _).mono ?_); rintro en w1 ⟨rfl, hb⟩; have K1 := Lib.hid (K0.out.trans hb); have K1a := Lib.hid (below_alloc' (K0.out.trans hb) (Nat.le_refl _) (.cells #[.int .i64 x.n, .int .i64 x.e, .int .i64 x.a, .int .i64 x.w] 58)); have cT := (BT.out.below hb).cell; have zT := (BT.out.below hb).lt; have BX := Lib.hid (Blk.new w1 [.int .i64 x.n, .int .i64 x.e, .int .i64 x.a, .int .i64 x.w] 58); clear hb)
      | (go_at_call 42; (with_reducible refine (HA1.out _).mono ?_); rintro en w2 ⟨rfl, hb⟩; have K2 := Lib.hid (K1a.out.trans (hb.mono K1a.out.size)); have cX := (BX.out.below hb).cell; have zX := (BX.out.below hb).lt; have q2 := (BV.out.below K2.out).cell; have f2 := (BV.out.below K2.out).frozen; have z2' := (BV.out.below K2.out).lt; have HBZ := Lib.hid (HBV.out.trans (K2.out.mono HBV.out.size)); clear hb))
    exact bodyPost_ret (v := .tuple #[agg4 0 0 0 0, .bool false]) (by simp [results, Try.results48, go_sem, q2, f2, z2']) rfl ⟨rfl, below_alloc' (below_set4 HBZ.out HG.out _ _ _ _) (Nat.le_refl _) _⟩
set_option maxRecDepth 100000 in
set_option maxHeartbeats 4000000 in
theorem refFind_10 (W : World) (s0 s1 s2 s3 s4 s5 s6 s7 t0 t1 t2 t3 t4 t5 t6 t7 : Int) (x y : Anc) (o0 o1 : Bool) (gx : 0 ≤ x.n) (gy : 0 ≤ y.n) (k0 : o0 = true ∧ (x.n % 2 == 0) = true) (k1 : o1 = false ∨ (o1 = true ∧ (y.n % 2 == 1) = false))
    (HA0 : ∀ V, Calls Try.prog 42 #[agg8 s0 s1 s2 s3 s4 s5 s6 s7] V fun en V' => en = .returned (.tuple #[agg4 x.n x.e x.a x.w, .bool o0]) ∧ Below V.heap.size V V')
    (HA1 : ∀ V, Calls Try.prog 42 #[agg8 t0 t1 t2 t3 t4 t5 t6 t7] V fun en V' => en = .returned (.tuple #[agg4 y.n y.e y.a y.w, .bool o1]) ∧ Below V.heap.size V V') :
    Calls Try.prog 48 #[agg8 s0 s1 s2 s3 s4 s5 s6 s7, agg8 t0 t1 t2 t3 t4 t5 t6 t7] W fun en W' => en = .returned (.tuple #[agg4 x.n x.e x.a x.w, .bool true]) ∧ Below W.heap.size W W' := by
  have HA0 := Lib.hid HA0
  have HA1 := Lib.hid HA1
  obtain ⟨V, hV⟩ : ∃ V, V = ((W.alloc (.cells #[.int .u64 s0, .int .u64 s1, .int .u64 s2, .int .u64 s3, .int .u64 s4, .int .u64 s5, .int .u64 s6, .int .u64 s7] 59)).alloc (.cells #[.int .u64 t0, .int .u64 t1, .int .u64 t2, .int .u64 t3, .int .u64 t4, .int .u64 t5, .int .u64 t6, .int .u64 t7] 59)).alloc (.cells #[.int .i64 0, .int .i64 0, .int .i64 0, .int .i64 0] 58) := ⟨_, rfl⟩
  have HBV : Hid (Below W.heap.size W V) := by rw [hV]; exact Lib.hid ((((Below.refl _ W).alloc (Nat.le_refl _) _).alloc (by simp) _).alloc (by simp; omega) _)
  have BS : Hid (Blk V W.heap.size [.int .u64 s0, .int .u64 s1, .int .u64 s2, .int .u64 s3, .int .u64 s4, .int .u64 s5, .int .u64 s6, .int .u64 s7] 59) := by rw [hV]; exact Lib.hid (((Blk.new W [.int .u64 s0, .int .u64 s1, .int .u64 s2, .int .u64 s3, .int .u64 s4, .int .u64 s5, .int .u64 s6, .int .u64 s7] 59).alloc _).alloc _)
  have BT : Hid (Blk V (W.heap.size + 1) [.int .u64 t0, .int .u64 t1, .int .u64 t2, .int .u64 t3, .int .u64 t4, .int .u64 t5, .int .u64 t6, .int .u64 t7] 59) := by
    rw [hV]
    have h := (Blk.new (W.alloc (.cells #[.int .u64 s0, .int .u64 s1, .int .u64 s2, .int .u64 s3, .int .u64 s4, .int .u64 s5, .int .u64 s6, .int .u64 s7] 59)) [.int .u64 t0, .int .u64 t1, .int .u64 t2, .int .u64 t3, .int .u64 t4, .int .u64 t5, .int .u64 t6, .int .u64 t7] 59).alloc (.cells #[.int .i64 0, .int .i64 0, .int .i64 0, .int .i64 0] 58)
    rw [World.size_alloc] at h
    exact Lib.hid h
  have BV : Hid (Blk V (W.heap.size + 1 + 1) [.int .i64 0, .int .i64 0, .int .i64 0, .int .i64 0] 58) := by
    rw [hV]
    have h := Blk.new ((W.alloc (.cells #[.int .u64 s0, .int .u64 s1, .int .u64 s2, .int .u64 s3, .int .u64 s4, .int .u64 s5, .int .u64 s6, .int .u64 s7] 59)).alloc (.cells #[.int .u64 t0, .int .u64 t1, .int .u64 t2, .int .u64 t3, .int .u64 t4, .int .u64 t5, .int .u64 t6, .int .u64 t7] 59)) [.int .i64 0, .int .i64 0, .int .i64 0, .int .i64 0] 58
    rw [World.size_alloc, World.size_alloc] at h
    exact Lib.hid h
  have K0 := Lib.hid (Below.refl V.heap.size V)
  have cS := BS.out.cell
  have hgt : W.heap.size ≤ W.heap.size + 1 + 1 := by omega
  have HG := Lib.hid hgt
  clear hgt
  obtain ⟨rfl, j0⟩ := k0
  rcases k1 with rfl | ⟨rfl, j1⟩
  all_goals
    go_enter Try.func48, Try.ntmps48
    go_wp2_with fail
    rw [← hV]
    clear hV
    go_wp2_with (first
      | (go_at_call 42; (with_reducible refine (HA0.out _).mono ?_); rintro en w1 ⟨rfl, hb⟩; have K1 := Lib.hid (K0.out.trans hb); have K1a := Lib.hid (below_alloc' (K0.out.trans hb) (Nat.le_refl _) (.cells #[.int .i64 x.n, .int .i64 x.e, .int .i64 x.a, .int .i64 x.w] 58)); have cT := (BT.out.below hb).cell; have zT := (BT.out.below hb).lt; have BX := Lib.hid (Blk.new w1 [.int .i64 x.n, .int .i64 x.e, .int .i64 x.a, .int .i64 x.w] 58); clear hb)
      | (go_at_call 42; (with_reducible refine (HA1.out _).mono ?_); rintro en w2 ⟨rfl, hb⟩; have K2 := Lib.hid (K1a.out.trans (hb.mono K1a.out.size)); have cX := (BX.out.below hb).cell; have zX := (BX.out.below hb).lt; have q2 := (BV.out.below K2.out).cell; have f2 := (BV.out.below K2.out).frozen; have z2' := (BV.out.below K2.out).lt; have HBZ := Lib.hid (HBV.out.trans (K2.out.mono HBV.out.size)); clear hb))
    exact bodyPost_ret (v := .tuple #[agg4 x.n x.e x.a x.w, .bool true]) (by simp [results, Try.results48, go_sem, q2, f2, z2']) rfl ⟨rfl, below_alloc' (below_set4 HBZ.out HG.out _ _ _ _) (Nat.le_refl _) _⟩
set_option maxRecDepth 100000 in
set_option maxHeartbeats 4000000 in
theorem refFind_01 (W : World) (s0 s1 s2 s3 s4 s5 s6 s7 t0 t1 t2 t3 t4 t5 t6 t7 : Int) (x y : Anc) (o0 o1 : Bool) (gx : 0 ≤ x.n) (gy : 0 ≤ y.n) (k0 : o0 = false ∨ (o0 = true ∧ (x.n % 2 == 0) = false)) (k1 : o1 = true ∧ (y.n % 2 == 1) = true)
    (HA0 : ∀ V, Calls Try.prog 42 #[agg8 s0 s1 s2 s3 s4 s5 s6 s7] V fun en V' => en = .returned (.tuple #[agg4 x.n x.e x.a x.w, .bool o0]) ∧ Below V.heap.size V V')
    (HA1 : ∀ V, Calls Try.prog 42 #[agg8 t0 t1 t2 t3 t4 t5 t6 t7] V fun en V' => en = .returned (.tuple #[agg4 y.n y.e y.a y.w, .bool o1]) ∧ Below V.heap.size V V') :
    Calls Try.prog 48 #[agg8 s0 s1 s2 s3 s4 s5 s6 s7, agg8 t0 t1 t2 t3 t4 t5 t6 t7] W fun en W' => en = .returned (.tuple #[agg4 y.n y.e y.a y.w, .bool true]) ∧ Below W.heap.size W W' := by
  have HA0 := Lib.hid HA0
  have HA1 := Lib.hid HA1
  obtain ⟨V, hV⟩ : ∃ V, V = ((W.alloc (.cells #[.int .u64 s0, .int .u64 s1, .int .u64 s2, .int .u64 s3, .int .u64 s4, .int .u64 s5, .int .u64 s6, .int .u64 s7] 59)).alloc (.cells #[.int .u64 t0, .int .u64 t1, .int .u64 t2, .int .u64 t3, .int .u64 t4, .int .u64 t5, .int .u64 t6, .int .u64 t7] 59)).alloc (.cells #[.int .i64 0, .int .i64 0, .int .i64 0, .int .i64 0] 58) := ⟨_, rfl⟩
  have HBV : Hid (Below W.heap.size W V) := by rw [hV]; exact Lib.hid ((((Below.refl _ W).alloc (Nat.le_refl _) _).alloc (by simp) _).alloc (by simp; omega) _)
  have BS : Hid (Blk V W.heap.size [.int .u64 s0, .int .u64 s1, .int .u64 s2, .int .u64 s3, .int .u64 s4, .int .u64 s5, .int .u64 s6, .int .u64 s7] 59) := by rw [hV]; exact Lib.hid (((Blk.new W [.int .u64 s0, .int .u64 s1, .int .u64 s2, .int .u64 s3, .int .u64 s4, .int .u64 s5, .int .u64 s6, .int .u64 s7] 59).alloc _).alloc _)
  have BT : Hid (Blk V (W.heap.size + 1) [.int .u64 t0, .int .u64 t1, .int .u64 t2, .int .u64 t3, .int .u64 t4, .int .u64 t5, .int .u64 t6, .int .u64 t7] 59) := by
    rw [hV]
    have h := (Blk.new (W.alloc (.cells #[.int .u64 s0, .int .u64 s1, .int .u64 s2, .int .u64 s3, .int .u64 s4, .int .u64 s5, .int .u64 s6, .int .u64 s7] 59)) [.int .u64 t0, .int .u64 t1, .int .u64 t2, .int .u64 t3, .int .u64 t4, .int .u64 t5, .int .u64 t6, .int .u64 t7] 59).alloc (.cells #[.int .i64 0, .int .i64 0, .int .i64 0, .int .i64 0] 58)
    rw [World.size_alloc] at h
    exact Lib.hid h
  have BV : Hid (Blk V (W.heap.size + 1 + 1) [.int .i64 0, .int .i64 0, .int .i64 0, .int .i64 0] 58) := by
    rw [hV]
    have h := Blk.new ((W.alloc (.cells #[.int .u64 s0, .int .u64 s1, .int .u64 s2, .int .u64 s3, .int .u64 s4, .int .u64 s5, .int .u64 s6, .int .u64 s7] 59)).alloc (.cells #[.int .u64 t0, .int .u64 t1, .int .u64 t2, .int .u64 t3, .int .u64 t4, .int .u64 t5, .int .u64 t6, .int .u64 t7] 59)) [.int .i64 0, .int .i64 0, .int .i64 0, .int .i64 0] 58
    rw [World.size_alloc, World.size_alloc] at h
    exact Lib.hid h
  have K0 := Lib.hid (Below.refl V.heap.size V)
  have cS := BS.out.cell
  have hgt : W.heap.size ≤ W.heap.size + 1 + 1 := by omega
  have HG := Lib.hid hgt
  clear hgt
  rcases k0 with rfl | ⟨rfl, j0⟩
  all_goals
    obtain ⟨rfl, j1⟩ := k1
  all_goals
    go_enter Try.func48, Try.ntmps48
    go_wp2_with fail
    rw [← hV]
    clear hV
    go_wp2_with (first
      | (go_at_call 42; (with_reducible refine (HA0.out _).mono ?_); rintro en w1 ⟨rfl, hb⟩; have K1 := Lib.hid (K0.out.trans hb); have K1a := Lib.hid (below_alloc' (K0.out.trans hb) (Nat.le_refl _) (.cells #[.int .i64 x.n, .int .i64 x.e, .int .i64 x.a, .int .i64 x.w] 58)); have cT := (BT.out.below hb).cell; have zT := (BT.out.below hb).lt; have BX := Lib.hid (Blk.new w1 [.int .i64 x.n, .int .i64 x.e, .int .i64 x.a, .int .i64 x.w] 58); clear hb)
      | (go_at_call 42; (with_reducible refine (HA1.out _).mono ?_); rintro en w2 ⟨rfl, hb⟩; have K2 := Lib.hid (K1a.out.trans (hb.mono K1a.out.size)); have cX := (BX.out.below hb).cell; have zX := (BX.out.below hb).lt; have q2 := (BV.out.below K2.out).cell; have f2 := (BV.out.below K2.out).frozen; have z2' := (BV.out.below K2.out).lt; have HBZ := Lib.hid (HBV.out.trans (K2.out.mono HBV.out.size)); clear hb))
    exact bodyPost_ret (v := .tuple #[agg4 y.n y.e y.a y.w, .bool true]) (by simp [results, Try.results48, go_sem, q2, f2, z2']) rfl ⟨rfl, below_alloc' (below_set4 HBZ.out HG.out _ _ _ _) (Nat.le_refl _) _⟩
set_option maxRecDepth 100000 in
set_option maxHeartbeats 4000000 in
theorem refFind_lt (W : World) (s0 s1 s2 s3 s4 s5 s6 s7 t0 t1 t2 t3 t4 t5 t6 t7 : Int) (x y : Anc) (o0 o1 : Bool) (gx : 0 ≤ x.n) (gy : 0 ≤ y.n) (k0 : o0 = true ∧ (x.n % 2 == 0) = true) (k1 : o1 = true ∧ (y.n % 2 == 1) = true) (hxy : x.n ≤ y.n)
    (HA0 : ∀ V, Calls Try.prog 42 #[agg8 s0 s1 s2 s3 s4 s5 s6 s7] V fun en V' => en = .returned (.tuple #[agg4 x.n x.e x.a x.w, .bool o0]) ∧ Below V.heap.size V V')
    (HA1 : ∀ V, Calls Try.prog 42 #[agg8 t0 t1 t2 t3 t4 t5 t6 t7] V fun en V' => en = .returned (.tuple #[agg4 y.n y.e y.a y.w, .bool o1]) ∧ Below V.heap.size V V') :
    Calls Try.prog 48 #[agg8 s0 s1 s2 s3 s4 s5 s6 s7, agg8 t0 t1 t2 t3 t4 t5 t6 t7] W fun en W' => en = .returned (.tuple #[agg4 y.n y.e y.a y.w, .bool true]) ∧ Below W.heap.size W W' := by
  have HA0 := Lib.hid HA0
  have HA1 := Lib.hid HA1
  obtain ⟨V, hV⟩ : ∃ V, V = ((W.alloc (.cells #[.int .u64 s0, .int .u64 s1, .int .u64 s2, .int .u64 s3, .int .u64 s4, .int .u64 s5, .int .u64 s6, .int .u64 s7] 59)).alloc (.cells #[.int .u64 t0, .int .u64 t1, .int .u64 t2, .int .u64 t3, .int .u64 t4, .int .u64 t5, .int .u64 t6, .int .u64 t7] 59)).alloc (.cells #[.int .i64 0, .int .i64 0, .int .i64 0, .int .i64 0] 58) := ⟨_, rfl⟩
  have HBV : Hid (Below W.heap.size W V) := by rw [hV]; exact Lib.hid ((((Below.refl _ W).alloc (Nat.le_refl _) _).alloc (by simp) _).alloc (by simp; omega) _)
  have BS : Hid (Blk V W.heap.size [.int .u64 s0, .int .u64 s1, .int .u64 s2, .int .u64 s3, .int .u64 s4, .int .u64 s5, .int .u64 s6, .int .u64 s7] 59) := by rw [hV]; exact Lib.hid (((Blk.new W [.int .u64 s0, .int .u64 s1, .int .u64 s2, .int .u64 s3, .int .u64 s4, .int .u64 s5, .int .u64 s6, .int .u64 s7] 59).alloc _).alloc _)
  have BT : Hid (Blk V (W.heap.size + 1) [.int .u64 t0, .int .u64 t1, .int .u64 t2, .int .u64 t3, .int .u64 t4, .int .u64 t5, .int .u64 t6, .int .u64 t7] 59) := by
    rw [hV]
    have h := (Blk.new (W.alloc (.cells #[.int .u64 s0, .int .u64 s1, .int .u64 s2, .int .u64 s3, .int .u64 s4, .int .u64 s5, .int .u64 s6, .int .u64 s7] 59)) [.int .u64 t0, .int .u64 t1, .int .u64 t2, .int .u64 t3, .int .u64 t4, .int .u64 t5, .int .u64 t6, .int .u64 t7] 59).alloc (.cells #[.int .i64 0, .int .i64 0, .int .i64 0, .int .i64 0] 58)
    rw [World.size_alloc] at h
    exact Lib.hid h
  have BV : Hid (Blk V (W.heap.size + 1 + 1) [.int .i64 0, .int .i64 0, .int .i64 0, .int .i64 0] 58) := by
    rw [hV]
    have h := Blk.new ((W.alloc (.cells #[.int .u64 s0, .int .u64 s1, .int .u64 s2, .int .u64 s3, .int .u64 s4, .int .u64 s5, .int .u64 s6, .int .u64 s7] 59)).alloc (.cells #[.int .u64 t0, .int .u64 t1, .int .u64 t2, .int .u64 t3, .int .u64 t4, .int .u64 t5, .int .u64 t6, .int .u64 t7] 59)) [.int .i64 0, .int .i64 0, .int .i64 0, .int .i64 0] 58
    rw [World.size_alloc, World.size_alloc] at h
    exact Lib.hid h
  have K0 := Lib.hid (Below.refl V.heap.size V)
  have cS := BS.out.cell
  have hgt : W.heap.size ≤ W.heap.size + 1 + 1 := by omega
  have HG := Lib.hid hgt
  clear hgt
  obtain ⟨rfl, j0⟩ := k0
  obtain ⟨rfl, j1⟩ := k1
  all_goals
    go_enter Try.func48, Try.ntmps48
    go_wp2_with fail
    rw [← hV]
    clear hV
    go_wp2_with (first
      | (go_at_call 42; (with_reducible refine (HA0.out _).mono ?_); rintro en w1 ⟨rfl, hb⟩; have K1 := Lib.hid (K0.out.trans hb); have K1a := Lib.hid (below_alloc' (K0.out.trans hb) (Nat.le_refl _) (.cells #[.int .i64 x.n, .int .i64 x.e, .int .i64 x.a, .int .i64 x.w] 58)); have cT := (BT.out.below hb).cell; have zT := (BT.out.below hb).lt; have BX := Lib.hid (Blk.new w1 [.int .i64 x.n, .int .i64 x.e, .int .i64 x.a, .int .i64 x.w] 58); clear hb)
      | (go_at_call 42; (with_reducible refine (HA1.out _).mono ?_); rintro en w2 ⟨rfl, hb⟩; have K2 := Lib.hid (K1a.out.trans (hb.mono K1a.out.size)); have cX := (BX.out.below hb).cell; have zX := (BX.out.below hb).lt; have q2 := (BV.out.below K2.out).cell; have f2 := (BV.out.below K2.out).frozen; have z2' := (BV.out.below K2.out).lt; have HBZ := Lib.hid (HBV.out.trans (K2.out.mono HBV.out.size)); clear hb))
    exact bodyPost_ret (v := .tuple #[agg4 y.n y.e y.a y.w, .bool true]) (by simp [results, Try.results48, go_sem, q2, f2, z2']) rfl ⟨rfl, below_alloc' (below_set4 HBZ.out HG.out _ _ _ _) (Nat.le_refl _) _⟩
set_option maxRecDepth 100000 in
set_option maxHeartbeats 4000000 in
theorem refFind_gt (W : World) (s0 s1 s2 s3 s4 s5 s6 s7 t0 t1 t2 t3 t4 t5 t6 t7 : Int) (x y : Anc) (o0 o1 : Bool) (gx : 0 ≤ x.n) (gy : 0 ≤ y.n) (k0 : o0 = true ∧ (x.n % 2 == 0) = true) (k1 : o1 = true ∧ (y.n % 2 == 1) = true) (hxy : y.n < x.n)
    (HA0 : ∀ V, Calls Try.prog 42 #[agg8 s0 s1 s2 s3 s4 s5 s6 s7] V fun en V' => en = .returned (.tuple #[agg4 x.n x.e x.a x.w, .bool o0]) ∧ Below V.heap.size V V')
    (HA1 : ∀ V, Calls Try.prog 42 #[agg8 t0 t1 t2 t3 t4 t5 t6 t7] V fun en V' => en = .returned (.tuple #[agg4 y.n y.e y.a y.w, .bool o1]) ∧ Below V.heap.size V V') :
    Calls Try.prog 48 #[agg8 s0 s1 s2 s3 s4 s5 s6 s7, agg8 t0 t1 t2 t3 t4 t5 t6 t7] W fun en W' => en = .returned (.tuple #[agg4 x.n x.e x.a x.w, .bool true]) ∧ Below W.heap.size W W' := by
  have HA0 := Lib.hid HA0
  have HA1 := Lib.hid HA1
  obtain ⟨V, hV⟩ : ∃ V, V = ((W.alloc (.cells #[.int .u64 s0, .int .u64 s1, .int .u64 s2, .int .u64 s3, .int .u64 s4, .int .u64 s5, .int .u64 s6, .int .u64 s7] 59)).alloc (.cells #[.int .u64 t0, .int .u64 t1, .int .u64 t2, .int .u64 t3, .int .u64 t4, .int .u64 t5, .int .u64 t6, .int .u64 t7] 59)).alloc (.cells #[.int .i64 0, .int .i64 0, .int .i64 0, .int .i64 0] 58) := ⟨_, rfl⟩
  have HBV : Hid (Below W.heap.size W V) := by rw [hV]; exact Lib.hid ((((Below.refl _ W).alloc (Nat.le_refl _) _).alloc (by simp) _).alloc (by simp; omega) _)
  have BS : Hid (Blk V W.heap.size [.int .u64 s0, .int .u64 s1, .int .u64 s2, .int .u64 s3, .int .u64 s4, .int .u64 s5, .int .u64 s6, .int .u64 s7] 59) := by rw [hV]; exact Lib.hid (((Blk.new W [.int .u64 s0, .int .u64 s1, .int .u64 s2, .int .u64 s3, .int .u64 s4, .int .u64 s5, .int .u64 s6, .int .u64 s7] 59).alloc _).alloc _)
  have BT : Hid (Blk V (W.heap.size + 1) [.int .u64 t0, .int .u64 t1, .int .u64 t2, .int .u64 t3, .int .u64 t4, .int .u64 t5, .int .u64 t6, .int .u64 t7] 59) := by
    rw [hV]
    have h := (Blk.new (W.alloc (.cells #[.int .u64 s0, .int .u64 s1, .int .u64 s2, .int .u64 s3, .int .u64 s4, .int .u64 s5, .int .u64 s6, .int .u64 s7] 59)) [.int .u64 t0, .int .u64 t1, .int .u64 t2, .int .u64 t3, .int .u64 t4, .int .u64 t5, .int .u64 t6, .int .u64 t7] 59).alloc (.cells #[.int .i64 0, .int .i64 0, .int .i64 0, .int .i64 0] 58)
    rw [World.size_alloc] at h
    exact Lib.hid h
  have BV : Hid (Blk V (W.heap.size + 1 + 1) [.int .i64 0, .int .i64 0, .int .i64 0, .int .i64 0] 58) := by
    rw [hV]
    have h := Blk.new ((W.alloc (.cells #[.int .u64 s0, .int .u64 s1, .int .u64 s2, .int .u64 s3, .int .u64 s4, .int .u64 s5, .int .u64 s6, .int .u64 s7] 59)).alloc (.cells #[.int .u64 t0, .int .u64 t1, .int .u64 t2, .int .u64 t3, .int .u64 t4, .int .u64 t5, .int .u64 t6, .int .u64 t7] 59)) [.int .i64 0, .int .i64 0, .int .i64 0, .int .i64 0] 58
    rw [World.size_alloc, World.size_alloc] at h
    exact Lib.hid h
  have K0 := Lib.hid (Below.refl V.heap.size V)
  have cS := BS.out.cell
  have hgt : W.heap.size ≤ W.heap.size + 1 + 1 := by omega
  have HG := Lib.hid hgt
  clear hgt
  obtain ⟨rfl, j0⟩ := k0
  obtain ⟨rfl, j1⟩ := k1
  all_goals
    go_enter Try.func48, Try.ntmps48
    go_wp2_with fail
    rw [← hV]
    clear hV
    go_wp2_with (first
      | (go_at_call 42; (with_reducible refine (HA0.out _).mono ?_); rintro en w1 ⟨rfl, hb⟩; have K1 := Lib.hid (K0.out.trans hb); have K1a := Lib.hid (below_alloc' (K0.out.trans hb) (Nat.le_refl _) (.cells #[.int .i64 x.n, .int .i64 x.e, .int .i64 x.a, .int .i64 x.w] 58)); have cT := (BT.out.below hb).cell; have zT := (BT.out.below hb).lt; have BX := Lib.hid (Blk.new w1 [.int .i64 x.n, .int .i64 x.e, .int .i64 x.a, .int .i64 x.w] 58); clear hb)
      | (go_at_call 42; (with_reducible refine (HA1.out _).mono ?_); rintro en w2 ⟨rfl, hb⟩; have K2 := Lib.hid (K1a.out.trans (hb.mono K1a.out.size)); have cX := (BX.out.below hb).cell; have zX := (BX.out.below hb).lt; have q2 := (BV.out.below K2.out).cell; have f2 := (BV.out.below K2.out).frozen; have z2' := (BV.out.below K2.out).lt; have HBZ := Lib.hid (HBV.out.trans (K2.out.mono HBV.out.size)); clear hb))
    exact bodyPost_ret (v := .tuple #[agg4 x.n x.e x.a x.w, .bool true]) (by simp [results, Try.results48, go_sem, q2, f2, z2']) rfl ⟨rfl, below_alloc' (below_set4 HBZ.out HG.out _ _ _ _) (Nat.le_refl _) _⟩

theorem refFind_any (W : World) (s0 s1 s2 s3 s4 s5 s6 s7 t0 t1 t2 t3 t4 t5 t6 t7 : Int) (us : Disk.Sec [s0, s1, s2, s3, s4, s5, s6, s7]) (ut : Disk.Sec [t0, t1, t2, t3, t4, t5, t6, t7]) :
    Calls Try.prog 48 #[agg8 s0 s1 s2 s3 s4 s5 s6 s7, agg8 t0 t1 t2 t3 t4 t5 t6 t7] W fun en W' => en = .returned (ancV (findA (rdA s0 s1 s2 s3 s4 s5 s6 s7) (rdA t0 t1 t2 t3 t4 t5 t6 t7))) ∧ Below W.heap.size W W' := by
  obtain ⟨_, us1, us2, us3, us4, _⟩ := sec_u us
  obtain ⟨_, ut1, ut2, ut3, ut4, _⟩ := sec_u ut
  have A0 := fun V => refRead_any V s0 s1 s2 s3 s4 s5 s6 s7 us1 us2 us3 us4
  have A1 := fun V => refRead_any V t0 t1 t2 t3 t4 t5 t6 t7 ut1 ut2 ut3 ut4
  have g0 := @rdA_num s0 s1 s2 s3 s4 s5 s6 s7 us1
  have g1 := @rdA_num t0 t1 t2 t3 t4 t5 t6 t7 ut1
  generalize rdA s0 s1 s2 s3 s4 s5 s6 s7 = r0 at *
  generalize rdA t0 t1 t2 t3 t4 t5 t6 t7 = r1 at *
  unfold findA
  rcases counts r0 0 with ⟨a1, a2, a3⟩ | ⟨a1, a3⟩
  · rcases counts r1 1 with ⟨b1, b2, b3⟩ | ⟨b1, b3⟩
    · rw [a3, b3]
      by_cases hlt : (r0.getD ⟨0, 0, 0, 0⟩).n < (r1.getD ⟨0, 0, 0, 0⟩).n
      · simp only [if_pos hlt]
        exact refFind_lt W s0 s1 s2 s3 s4 s5 s6 s7 t0 t1 t2 t3 t4 t5 t6 t7 _ _ _ _ g0 g1 ⟨a1, a2⟩ ⟨b1, b2⟩ (Int.le_of_lt hlt) A0 A1
      · simp only [if_neg hlt]
        have hne : (r1.getD ⟨0, 0, 0, 0⟩).n < (r0.getD ⟨0, 0, 0, 0⟩).n := by
          simp only [beq_iff_eq] at a2 b2
          omega
        exact refFind_gt W s0 s1 s2 s3 s4 s5 s6 s7 t0 t1 t2 t3 t4 t5 t6 t7 _ _ _ _ g0 g1 ⟨a1, a2⟩ ⟨b1, b2⟩ hne A0 A1
    · rw [a3, b3]
      exact refFind_10 W s0 s1 s2 s3 s4 s5 s6 s7 t0 t1 t2 t3 t4 t5 t6 t7 _ _ _ _ g0 g1 ⟨a1, a2⟩ b1 A0 A1
  · rcases counts r1 1 with ⟨b1, b2, b3⟩ | ⟨b1, b3⟩
    · rw [a3, b3]
      exact refFind_01 W s0 s1 s2 s3 s4 s5 s6 s7 t0 t1 t2 t3 t4 t5 t6 t7 _ _ _ _ g0 g1 a1 ⟨b1, b2⟩ A0 A1
    · rw [a3, b3]
      exact refFind_00 W s0 s1 s2 s3 s4 s5 s6 s7 t0 t1 t2 t3 t4 t5 t6 t7 _ _ _ _ g0 g1 a1 b1 A0 A1
end Go.Proofs.Ytmeoiennniknlaa.Anchor
