/- The walks of the statements AnchorFinds and AnchorGreater. -/
import Derived.Test.YtmeoiennniknlaaAnL
namespace Go.Proofs.Ytmeoiennniknlaa.Anchor
open Go.RowKit Go.Shelf Go.Proofs.YtmeoiennniknlaaW.PrintWords Go.Proofs.Ytmeoiennniknlaa.Lb Go.Proofs.Ytmeoiennniknlaa.Sums
open Go.Proofs.Ytmeoiennniknlaa.Disk (Dsk Chg Sec cur upd thB)
set_option linter.unusedVariables false
set_option linter.unusedSimpArgs false

theorem dWrite_at {W V : World} {d lb mb : Nat} {L : List (List Int)} {M : Nat → Option (List Int)} {i : Nat} {j : Int} {s0 s1 s2 s3 s4 s5 s6 s7 : Int} (h : Hid (Dsk V d lb mb L M)) (hi : Hid (i < L.length)) (hj : Hid ((i : Int) = j)) (hs : Hid (Sec [s0, s1, s2, s3, s4, s5, s6, s7])) (hB : Hid (W.heap.size ≤ d ∧ W.heap.size ≤ lb ∧ W.heap.size ≤ mb)) (hW : Hid (Below W.heap.size W V)) :
    Calls Try.prog 46 #[.pointer (some ⟨d, 0, none⟩), .int .i64 j, agg8 s0 s1 s2 s3 s4 s5 s6 s7] V fun en V' => en = .returned (.int .i64 0) ∧ Hid (Dsk V' d lb mb L (upd M i [s0, s1, s2, s3, s4, s5, s6, s7])) ∧ Hid (Below W.heap.size W V') := by
  refine (aset_at h hi hj hs).mono fun en V' ⟨h1, h2, h3⟩ => ⟨h1, h2, Lib.hid (hW.out.trans (h3.out.below hW.out.size ?_))⟩
  rintro k (rfl | rfl)
  · exact hB.out.1
  · exact hB.out.2.2
theorem finds_at {W V : World} {d lb mb : Nat} {L : List (List Int)} {M : Nat → Option (List Int)} {r : Option Anc} (h : Hid (Dsk V d lb mb L M)) (hL : Hid (2 ≤ L.length)) (hx : Hid (∃ s0 s1 s2 s3 s4 s5 s6 s7 t0 t1 t2 t3 t4 t5 t6 t7, cur L M 0 = [s0, s1, s2, s3, s4, s5, s6, s7] ∧ cur L M 1 = [t0, t1, t2, t3, t4, t5, t6, t7] ∧ Sec [s0, s1, s2, s3, s4, s5, s6, s7] ∧ Sec [t0, t1, t2, t3, t4, t5, t6, t7] ∧ findA (rdA s0 s1 s2 s3 s4 s5 s6 s7) (rdA t0 t1 t2 t3 t4 t5 t6 t7) = r)) (hW : Hid (Below W.heap.size W V)) :
    Calls Try.prog 47 #[.pointer (some ⟨d, 0, none⟩)] V fun en V' => en = .returned (findV r) ∧ Hid (Below V.heap.size V V') ∧ Hid (Below W.heap.size W V') := by
  obtain ⟨s0, s1, s2, s3, s4, s5, s6, s7, t0, t1, t2, t3, t4, t5, t6, t7, h1, h2, h3, h4, h5⟩ := hx.out
  have H := find_any h.out hL.out _ _ _ _ _ _ _ _ _ _ _ _ _ _ _ _ h1 h2 h3 h4
  rw [h5] at H
  exact H.mono fun en V' ⟨h6, h7⟩ => ⟨h6, Lib.hid h7, Lib.hid (hW.out.trans (h7.mono hW.out.size))⟩
theorem refFind_at {V : World} {s0 s1 s2 s3 s4 s5 s6 s7 t0 t1 t2 t3 t4 t5 t6 t7 : Int} {r : Option Anc} (us : Hid (Sec [s0, s1, s2, s3, s4, s5, s6, s7])) (ut : Hid (Sec [t0, t1, t2, t3, t4, t5, t6, t7])) (hr : Hid (findA (rdA s0 s1 s2 s3 s4 s5 s6 s7) (rdA t0 t1 t2 t3 t4 t5 t6 t7) = r)) :
    Calls Try.prog 48 #[agg8 s0 s1 s2 s3 s4 s5 s6 s7, agg8 t0 t1 t2 t3 t4 t5 t6 t7] V fun en V' => en = .returned (ancV r) ∧ Hid (Below V.heap.size V V') := by
  have h := refFind_any V _ _ _ _ _ _ _ _ _ _ _ _ _ _ _ _ us.out ut.out
  rw [hr.out] at h
  exact h.mono fun _ _ h => ⟨h.1, Lib.hid h.2⟩
theorem zero_none : rdA 0 0 0 0 0 0 0 0 = none := by
  unfold rdA
  rw [if_neg]
  rintro ⟨h, _⟩
  exact absurd h (by decide)
theorem findNil_at {V : World} : Calls Try.prog 47 #[.pointer none] V fun en V' => en = .returned (.tuple #[agg4 0 0 0 0, .int .i64 3]) ∧ Hid (Below V.heap.size V V') :=
  (find_e0 V none (fun U hU => Disk.read_out U none 0 (fun X hX => Disk.there_nil X 0))).mono fun _ _ h => ⟨h.1, Lib.hid h.2⟩
theorem findOne_at {V : World} {d lb mb : Nat} (h : Hid (Dsk V d lb mb (List.replicate 1 zero8) (fun _ => none))) :
    Calls Try.prog 47 #[.pointer (some ⟨d, 0, none⟩)] V fun en V' => en = .returned (.tuple #[agg4 0 0 0 0, .int .i64 3]) ∧ Hid (Below V.heap.size V V') := by
  refine (find_e1 V (some ⟨d, 0, none⟩) 0 0 0 0 0 0 0 0 ⟨0, 0, 0, 0⟩ (fun U hU => Disk.read_any (h.out.below hU.out) 0 (by decide) 0 0 0 0 0 0 0 0 rfl) (fun U hU => Disk.read_out U _ 1 (fun X hX => ?_)) (fun U => ?_)).mono fun _ _ h => ⟨h.1, Lib.hid h.2⟩
  · exact Disk.there_at (Lib.hid ((h.out.below hU.out).below hX.out)) (Lib.hid (by decide))
  · have h1 := Anchor.read_any U 0 0 0 0 0 0 0 0 ⟨by decide, by decide⟩ ⟨by decide, by decide⟩ ⟨by decide, by decide⟩ ⟨by decide, by decide⟩
    rw [zero_none] at h1
    exact h1

set_option maxRecDepth 100000 in
set_option maxHeartbeats 4000000 in
theorem finds_walk (W : World) (s0 s1 s2 s3 s4 s5 s6 s7 t0 t1 t2 t3 t4 t5 t6 t7 : Int) (us : Sec [s0, s1, s2, s3, s4, s5, s6, s7]) (ut : Sec [t0, t1, t2, t3, t4, t5, t6, t7]) :
    Calls Try.prog 12 #[agg8 s0 s1 s2 s3 s4 s5 s6 s7, agg8 t0 t1 t2 t3 t4 t5 t6 t7] W fun en W' => en = .returned (.bool true) ∧ Below W.heap.size W W' := by
  have US := Lib.hid us
  have UT := Lib.hid ut
  obtain ⟨r, hr⟩ : ∃ r, findA (rdA s0 s1 s2 s3 s4 s5 s6 s7) (rdA t0 t1 t2 t3 t4 t5 t6 t7) = r := ⟨_, rfl⟩
  have HR := Lib.hid hr
  have HX : Hid (∃ a0 a1 a2 a3 a4 a5 a6 a7 b0 b1 b2 b3 b4 b5 b6 b7, cur (List.replicate 3 zero8) (upd (upd (fun _ => none) 0 [s0, s1, s2, s3, s4, s5, s6, s7]) 1 [t0, t1, t2, t3, t4, t5, t6, t7]) 0 = [a0, a1, a2, a3, a4, a5, a6, a7] ∧ cur (List.replicate 3 zero8) (upd (upd (fun _ => none) 0 [s0, s1, s2, s3, s4, s5, s6, s7]) 1 [t0, t1, t2, t3, t4, t5, t6, t7]) 1 = [b0, b1, b2, b3, b4, b5, b6, b7] ∧
      Sec [a0, a1, a2, a3, a4, a5, a6, a7] ∧ Sec [b0, b1, b2, b3, b4, b5, b6, b7] ∧ findA (rdA a0 a1 a2 a3 a4 a5 a6 a7) (rdA b0 b1 b2 b3 b4 b5 b6 b7) = r) :=
    Lib.hid ⟨_, _, _, _, _, _, _, _, _, _, _, _, _, _, _, _, rfl, rfl, us, ut, hr⟩
  have N3 : Hid (((3 : Nat) : Int) = 3) := Lib.hid rfl
  have N1 : Hid (((1 : Nat) : Int) = 1) := Lib.hid rfl
  have N0 : Hid (((0 : Nat) : Int) = 0) := Lib.hid rfl
  have R3 : Hid (1 ≤ 3 ∧ 3 ≤ 4096) := Lib.hid (by decide)
  have R1 : Hid (1 ≤ 1 ∧ 1 ≤ 4096) := Lib.hid (by decide)
  have I0 : Hid (0 < (List.replicate 3 zero8).length) := Lib.hid (by decide)
  have I1 : Hid (1 < (List.replicate 3 zero8).length) := Lib.hid (by decide)
  have L2 : Hid (2 ≤ (List.replicate 3 zero8).length) := Lib.hid (by decide)
  clear hr us ut
  obtain ⟨V, hV⟩ : ∃ V, V = (W.alloc (.cells #[.int .u64 s0, .int .u64 s1, .int .u64 s2, .int .u64 s3, .int .u64 s4, .int .u64 s5, .int .u64 s6, .int .u64 s7] 59)).alloc (.cells #[.int .u64 t0, .int .u64 t1, .int .u64 t2, .int .u64 t3, .int .u64 t4, .int .u64 t5, .int .u64 t6, .int .u64 t7] 59) := ⟨_, rfl⟩
  have HBV : Hid (Below W.heap.size W V) := by rw [hV]; exact Lib.hid (((Below.refl _ W).alloc (Nat.le_refl _) _).alloc (by simp) _)
  have BS : Hid (Blk V W.heap.size [.int .u64 s0, .int .u64 s1, .int .u64 s2, .int .u64 s3, .int .u64 s4, .int .u64 s5, .int .u64 s6, .int .u64 s7] 59) := by rw [hV]; exact Lib.hid ((Blk.new W [.int .u64 s0, .int .u64 s1, .int .u64 s2, .int .u64 s3, .int .u64 s4, .int .u64 s5, .int .u64 s6, .int .u64 s7] 59).alloc _)
  have BT : Hid (Blk V (W.heap.size + 1) [.int .u64 t0, .int .u64 t1, .int .u64 t2, .int .u64 t3, .int .u64 t4, .int .u64 t5, .int .u64 t6, .int .u64 t7] 59) := by
    rw [hV]
    have h := Blk.new (W.alloc (.cells #[.int .u64 s0, .int .u64 s1, .int .u64 s2, .int .u64 s3, .int .u64 s4, .int .u64 s5, .int .u64 s6, .int .u64 s7] 59)) [.int .u64 t0, .int .u64 t1, .int .u64 t2, .int .u64 t3, .int .u64 t4, .int .u64 t5, .int .u64 t6, .int .u64 t7] 59
    rw [World.size_alloc] at h
    exact Lib.hid h
  have BOX : ∀ X : World, Hid (Blk (X.alloc (.cells #[.int .i64 (r.getD ⟨0, 0, 0, 0⟩).n, .int .i64 (r.getD ⟨0, 0, 0, 0⟩).e, .int .i64 (r.getD ⟨0, 0, 0, 0⟩).a, .int .i64 (r.getD ⟨0, 0, 0, 0⟩).w] 58)) X.heap.size [.int .i64 (r.getD ⟨0, 0, 0, 0⟩).n, .int .i64 (r.getD ⟨0, 0, 0, 0⟩).e, .int .i64 (r.getD ⟨0, 0, 0, 0⟩).a, .int .i64 (r.getD ⟨0, 0, 0, 0⟩).w] 58) := fun X => Lib.hid (Blk.new X [.int .i64 (r.getD ⟨0, 0, 0, 0⟩).n, .int .i64 (r.getD ⟨0, 0, 0, 0⟩).e, .int .i64 (r.getD ⟨0, 0, 0, 0⟩).a, .int .i64 (r.getD ⟨0, 0, 0, 0⟩).w] 58)
  have HBOX := Lib.hid BOX
  clear BOX
  go_enter Try.func12, Try.ntmps12
  go_wp2_with fail
  rw [← hV]
  clear hV
  go_wp2_with (first
    | (go_at_call 39; (with_reducible refine (alive7_any _).mono ?_); rintro en w1 ⟨rfl, hb⟩; have K1 := Lib.hid hb; have BS1 := Lib.hid (BS.out.below hb); have BT1 := Lib.hid (BT.out.below hb); clear hb)
    | (go_at_call 45; (with_reducible refine (new_at N3 R3).mono ?_); rintro en w2 ⟨d, lb, mb, rfl, HD2, HB, KW2⟩; have cS := (BS1.out.below KW2.out).cell)
    | (go_at_call 46; (with_reducible refine (dWrite_at HD2 I0 N0 US HB KW2).mono ?_); rintro en w3 ⟨rfl, HD3, KW3⟩; have cT := (BT1.out.below KW3.out).cell)
    | (go_at_call 46; (with_reducible refine (dWrite_at HD3 I1 N1 UT HB KW3).mono ?_); rintro en w4 ⟨rfl, HD4, KW4⟩)
    | (go_at_call 47; (with_reducible refine (finds_at HD4 L2 HX KW4).mono ?_); rintro en w5 ⟨rfl, H5, KW5⟩; have K5 := Lib.hid (below_alloc' KW5.out (Nat.le_refl _) (.cells #[.int .i64 (r.getD ⟨0, 0, 0, 0⟩).n, .int .i64 (r.getD ⟨0, 0, 0, 0⟩).e, .int .i64 (r.getD ⟨0, 0, 0, 0⟩).a, .int .i64 (r.getD ⟨0, 0, 0, 0⟩).w] 58)); have cS5 := (BS1.out.below KW5.out).cell; have zS5 := (BS1.out.below KW5.out).lt; have cT5 := (BT1.out.below KW5.out).cell; have zT5 := (BT1.out.below KW5.out).lt)
    | (go_at_call 48; (with_reducible refine (refFind_at US UT HR).mono ?_); rintro en w6 ⟨rfl, H6⟩; have K6 := Lib.hid (below_alloc' (K5.out.trans (H6.out.mono K5.out.size)) (Nat.le_refl _) (.cells #[.int .i64 (r.getD ⟨0, 0, 0, 0⟩).n, .int .i64 (r.getD ⟨0, 0, 0, 0⟩).e, .int .i64 (r.getD ⟨0, 0, 0, 0⟩).a, .int .i64 (r.getD ⟨0, 0, 0, 0⟩).w] 58)); have BX6 := Lib.hid (((HBOX.out w5).out.below H6.out).alloc (.cells #[.int .i64 (r.getD ⟨0, 0, 0, 0⟩).n, .int .i64 (r.getD ⟨0, 0, 0, 0⟩).e, .int .i64 (r.getD ⟨0, 0, 0, 0⟩).a, .int .i64 (r.getD ⟨0, 0, 0, 0⟩).w] 58)))
    | (go_at_call 45; (with_reducible refine (new_at N1 R1).mono ?_); rintro en w7 ⟨d7, lb7, mb7, rfl, HD7, HB7, KW7⟩; have K7 := Lib.hid (K6.out.trans (KW7.out.mono K6.out.size)); have BX7 := Lib.hid (BX6.out.below KW7.out); have BY7 := Lib.hid ((HBOX.out w6).out.below KW7.out))
    | (go_at_call 47; (with_reducible refine (findOne_at HD7).mono ?_); rintro en w8 ⟨rfl, H8⟩; have K8 := Lib.hid (below_alloc' (K7.out.trans (H8.out.mono K7.out.size)) (Nat.le_refl _) (.cells #[.int .i64 0, .int .i64 0, .int .i64 0, .int .i64 0] 58)); have BX8 := Lib.hid ((BX7.out.below H8.out).alloc (.cells #[.int .i64 0, .int .i64 0, .int .i64 0, .int .i64 0] 58)); have BY8 := Lib.hid ((BY7.out.below H8.out).alloc (.cells #[.int .i64 0, .int .i64 0, .int .i64 0, .int .i64 0] 58)))
    | (go_at_call 47; (with_reducible refine findNil_at.mono ?_); rintro en w9 ⟨rfl, H9⟩; have K9 := Lib.hid (below_alloc' (K8.out.trans (H9.out.mono K8.out.size)) (Nat.le_refl _) (.cells #[.int .i64 0, .int .i64 0, .int .i64 0, .int .i64 0] 58)); have cX := (BX8.out.below H9.out).cell; have zX := (BX8.out.below H9.out).lt; have cY := (BY8.out.below H9.out).cell; have zY := (BY8.out.below H9.out).lt))
  all_goals
    go_ret
    exact ⟨rfl, HBV.out.trans ((K1.out.trans (K9.out.mono K1.out.size)).mono HBV.out.size)⟩

/-! AnchorGreater -/
set_option maxRecDepth 100000 in
set_option maxHeartbeats 1000000 in
theorem greater_out (W : World) (n e a w n' e' a' w' : Int) (h : ancB n e a w = false ∨ ancB n' e' a' w' = false) :
    Calls Try.prog 13 #[agg4 n e a w, agg4 n' e' a' w'] W fun en W' => en = .returned (.bool true) ∧ Below W.heap.size W W' := by
  obtain ⟨m, hm⟩ : ∃ m, ancB n e a w = m := ⟨_, rfl⟩
  obtain ⟨m', hm'⟩ : ∃ m, ancB n' e' a' w' = m := ⟨_, rfl⟩
  have HM := Lib.hid hm
  have HM' := Lib.hid hm'
  rw [hm, hm'] at h
  have h2 : m = false ∨ (m = true ∧ m' = false) := by
    cases m
    · exact Or.inl rfl
    · exact Or.inr ⟨rfl, by simpa using h⟩
  clear hm hm' h
  obtain ⟨V, hV⟩ : ∃ V, V = (W.alloc (.cells #[.int .i64 n, .int .i64 e, .int .i64 a, .int .i64 w] 58)).alloc (.cells #[.int .i64 n', .int .i64 e', .int .i64 a', .int .i64 w'] 58) := ⟨_, rfl⟩
  have HBV : Hid (Below W.heap.size W V) := by rw [hV]; exact Lib.hid (((Below.refl _ W).alloc (Nat.le_refl _) _).alloc (by simp) _)
  have BA : Hid (Blk V W.heap.size [.int .i64 n, .int .i64 e, .int .i64 a, .int .i64 w] 58) := by rw [hV]; exact Lib.hid ((Blk.new W [.int .i64 n, .int .i64 e, .int .i64 a, .int .i64 w] 58).alloc _)
  have BB : Hid (Blk V (W.heap.size + 1) [.int .i64 n', .int .i64 e', .int .i64 a', .int .i64 w'] 58) := by
    rw [hV]
    have h := Blk.new (W.alloc (.cells #[.int .i64 n, .int .i64 e, .int .i64 a, .int .i64 w] 58)) [.int .i64 n', .int .i64 e', .int .i64 a', .int .i64 w'] 58
    rw [World.size_alloc] at h
    exact Lib.hid h
  rcases h2 with rfl | ⟨rfl, rfl⟩
  all_goals
    go_enter Try.func13, Try.ntmps13
    go_wp2_with fail
    rw [← hV]
    clear hV
    go_wp2_with (first
      | (go_at_call 39; (with_reducible refine (alive7_any _).mono ?_); rintro en w1 ⟨rfl, hb⟩; have K1 := Lib.hid hb; have cA := (BA.out.below hb).cell; clear hb)
      | (go_at_call 43; (with_reducible refine (refMay_at HM).mono ?_); rintro en w2 ⟨rfl, Hb⟩; have K2 := Lib.hid (K1.out.trans (Hb.out.mono K1.out.size)); have cB := (BB.out.below K2.out).cell)
      | (go_at_call 43; (with_reducible refine (refMay_at HM').mono ?_); rintro en w3 ⟨rfl, Hb3⟩; have K3 := Lib.hid (K2.out.trans (Hb3.out.mono K2.out.size))))
    go_ret
    first
      | exact ⟨rfl, HBV.out.trans (K3.out.mono HBV.out.size)⟩
      | exact ⟨rfl, HBV.out.trans (K2.out.mono HBV.out.size)⟩

/-- Which of two anchors is told. -/
def greater (x y : Anc) : Anc := if x.n % 2 ≠ y.n % 2 ∧ y.n < x.n then x else y
theorem upd_sec (x y : Anc) (hx : ancB x.n x.e x.a x.w = true) (hy : ancB y.n y.e y.a y.w = true) : ∃ s0 s1 s2 s3 s4 s5 s6 s7 t0 t1 t2 t3 t4 t5 t6 t7,
    cur (List.replicate 2 zero8) (upd (upd (fun _ => none) (x.n.toNat % 2) [(amark x.n x.e x.a x.w : Int), x.n, x.e, x.a, x.w, 0, 0, 0]) (y.n.toNat % 2) [(amark y.n y.e y.a y.w : Int), y.n, y.e, y.a, y.w, 0, 0, 0]) 0 = [s0, s1, s2, s3, s4, s5, s6, s7] ∧
    cur (List.replicate 2 zero8) (upd (upd (fun _ => none) (x.n.toNat % 2) [(amark x.n x.e x.a x.w : Int), x.n, x.e, x.a, x.w, 0, 0, 0]) (y.n.toNat % 2) [(amark y.n y.e y.a y.w : Int), y.n, y.e, y.a, y.w, 0, 0, 0]) 1 = [t0, t1, t2, t3, t4, t5, t6, t7] ∧
    Sec [s0, s1, s2, s3, s4, s5, s6, s7] ∧ Sec [t0, t1, t2, t3, t4, t5, t6, t7] ∧ findA (rdA s0 s1 s2 s3 s4 s5 s6 s7) (rdA t0 t1 t2 t3 t4 t5 t6 t7) = some (greater x y) := by
  have nx := (ancB_true.1 hx).1.1
  have ny := (ancB_true.1 hy).1.1
  rcases (show x.n.toNat % 2 = 0 ∨ x.n.toNat % 2 = 1 by omega) with px | px
  all_goals rcases (show y.n.toNat % 2 = 0 ∨ y.n.toNat % 2 = 1 by omega) with py | py
  · refine ⟨_, _, _, _, _, _, _, _, _, _, _, _, _, _, _, _, by rw [px, py]; rfl, by rw [px, py]; rfl, ancSec hy, Disk.Sec.zero, ?_⟩
    rw [rdA_anc hy, zero_none]
    have e1 : (y.n % 2 == 0) = true := by simp; omega
    have e2 : greater x y = y := by unfold greater; rw [if_neg (by omega)]
    simp [findA, Option.filter, e1, e2]
  · refine ⟨_, _, _, _, _, _, _, _, _, _, _, _, _, _, _, _, by rw [px, py]; rfl, by rw [px, py]; rfl, ancSec hx, ancSec hy, ?_⟩
    rw [rdA_anc hy, rdA_anc hx]
    have e1 : (x.n % 2 == 0) = true := by simp; omega
    have e2 : (y.n % 2 == 1) = true := by simp; omega
    by_cases hlt : x.n < y.n
    · have e3 : greater x y = y := by unfold greater; rw [if_neg (by omega)]
      simp [findA, Option.filter, e1, e2, e3, hlt]
    · have e3 : greater x y = x := by unfold greater; rw [if_pos (by omega)]
      simp [findA, Option.filter, e1, e2, e3, hlt]
  · refine ⟨_, _, _, _, _, _, _, _, _, _, _, _, _, _, _, _, by rw [px, py]; rfl, by rw [px, py]; rfl, ancSec hy, ancSec hx, ?_⟩
    rw [rdA_anc hy, rdA_anc hx]
    have e1 : (y.n % 2 == 0) = true := by simp; omega
    have e2 : (x.n % 2 == 1) = true := by simp; omega
    by_cases hlt : y.n < x.n
    · have e3 : greater x y = x := by unfold greater; rw [if_pos (by omega)]
      simp [findA, Option.filter, e1, e2, e3, hlt]
    · have e3 : greater x y = y := by unfold greater; rw [if_neg (by omega)]
      simp [findA, Option.filter, e1, e2, e3, hlt]
  · refine ⟨_, _, _, _, _, _, _, _, _, _, _, _, _, _, _, _, by rw [px, py]; rfl, by rw [px, py]; rfl, Disk.Sec.zero, ancSec hy, ?_⟩
    rw [rdA_anc hy, zero_none]
    have e1 : (y.n % 2 == 1) = true := by simp; omega
    have e2 : greater x y = y := by unfold greater; rw [if_neg (by omega)]
    simp [findA, Option.filter, e1, e2]

set_option maxRecDepth 100000 in
set_option maxHeartbeats 4000000 in
theorem greater_main (W : World) (n e a w n' e' a' w' : Int) (hm : ancB n e a w = true) (hm' : ancB n' e' a' w' = true) :
    Calls Try.prog 13 #[agg4 n e a w, agg4 n' e' a' w'] W fun en W' => en = .returned (.bool true) ∧ Below W.heap.size W W' := by
  have HM := Lib.hid hm
  have HM' := Lib.hid hm'
  have HX := Lib.hid (upd_sec ⟨n, e, a, w⟩ ⟨n', e', a', w'⟩ hm hm')
  have hn1 := (ancB_true.1 hm).1.1
  have hn2 := (ancB_true.1 hm').1.1
  have N2 : Hid (((2 : Nat) : Int) = 2) := Lib.hid rfl
  have L2 : Hid (2 ≤ (List.replicate 2 zero8).length) := Lib.hid (by decide)
  have R2 : Hid (1 ≤ 2 ∧ 2 ≤ 4096) := Lib.hid (by decide)
  have hcase : ((n % 2 != n' % 2) = true ∧ n' < n ∧ greater ⟨n, e, a, w⟩ ⟨n', e', a', w'⟩ = ⟨n, e, a, w⟩) ∨ ((n % 2 != n' % 2) = true ∧ n ≤ n' ∧ greater ⟨n, e, a, w⟩ ⟨n', e', a', w'⟩ = ⟨n', e', a', w'⟩) ∨ ((n % 2 != n' % 2) = false ∧ greater ⟨n, e, a, w⟩ ⟨n', e', a', w'⟩ = ⟨n', e', a', w'⟩) := by
    by_cases h1 : n % 2 = n' % 2
    · exact Or.inr (Or.inr ⟨by simp [h1], by unfold greater; exact if_neg (fun h => h.1 h1)⟩)
    · by_cases h2 : n' < n
      · exact Or.inl ⟨by simp [h1], h2, by unfold greater; exact if_pos ⟨h1, h2⟩⟩
      · exact Or.inr (Or.inl ⟨by simp [h1], by omega, by unfold greater; exact if_neg (fun h => h2 h.2)⟩)
  clear hm hm'
  obtain ⟨V, hV⟩ : ∃ V, V = (W.alloc (.cells #[.int .i64 n, .int .i64 e, .int .i64 a, .int .i64 w] 58)).alloc (.cells #[.int .i64 n', .int .i64 e', .int .i64 a', .int .i64 w'] 58) := ⟨_, rfl⟩
  have HBV : Hid (Below W.heap.size W V) := by rw [hV]; exact Lib.hid (((Below.refl _ W).alloc (Nat.le_refl _) _).alloc (by simp) _)
  have BA : Hid (Blk V W.heap.size [.int .i64 n, .int .i64 e, .int .i64 a, .int .i64 w] 58) := by rw [hV]; exact Lib.hid ((Blk.new W [.int .i64 n, .int .i64 e, .int .i64 a, .int .i64 w] 58).alloc _)
  have BB : Hid (Blk V (W.heap.size + 1) [.int .i64 n', .int .i64 e', .int .i64 a', .int .i64 w'] 58) := by
    rw [hV]
    have h := Blk.new (W.alloc (.cells #[.int .i64 n, .int .i64 e, .int .i64 a, .int .i64 w] 58)) [.int .i64 n', .int .i64 e', .int .i64 a', .int .i64 w'] 58
    rw [World.size_alloc] at h
    exact Lib.hid h
  have BXA : Hid (∀ X : World, Blk (X.alloc (.cells #[.int .i64 n, .int .i64 e, .int .i64 a, .int .i64 w] 58)) X.heap.size [.int .i64 n, .int .i64 e, .int .i64 a, .int .i64 w] 58) := Lib.hid (fun X => Blk.new X [.int .i64 n, .int .i64 e, .int .i64 a, .int .i64 w] 58)
  have BXB : Hid (∀ X : World, Blk (X.alloc (.cells #[.int .i64 n', .int .i64 e', .int .i64 a', .int .i64 w'] 58)) X.heap.size [.int .i64 n', .int .i64 e', .int .i64 a', .int .i64 w'] 58) := Lib.hid (fun X => Blk.new X [.int .i64 n', .int .i64 e', .int .i64 a', .int .i64 w'] 58)
  rcases hcase with ⟨c1, c2, c3⟩ | ⟨c1, c2, c3⟩ | ⟨c1, c3⟩
  all_goals
    rw [c3] at HX
    clear c3
    go_enter Try.func13, Try.ntmps13
    go_wp2_with fail
    rw [← hV]
    clear hV
    go_wp2_with (first
      | (go_at_call 39; (with_reducible refine (alive7_any _).mono ?_); rintro en w1 ⟨rfl, hb⟩; have K1 := Lib.hid hb; have cA := (BA.out.below hb).cell; clear hb)
      | (go_at_call 43; (with_reducible refine (refMay_at HM).mono ?_); rintro en w2 ⟨rfl, Hb⟩; have K2 := Lib.hid (K1.out.trans (Hb.out.mono K1.out.size)); have cB := (BB.out.below K2.out).cell)
      | (go_at_call 43; (with_reducible refine (refMay_at HM').mono ?_); rintro en w3 ⟨rfl, Hb3⟩; have K3 := Lib.hid (K2.out.trans (Hb3.out.mono K2.out.size)); have BA3 := Lib.hid (BA.out.below K3.out); have BB3 := Lib.hid (BB.out.below K3.out))
      | (go_at_call 45; (with_reducible refine (new_at N2 R2).mono ?_); rintro en w4 ⟨d, lb, mb, rfl, HD4, HB, KW4⟩; have cA4 := (BA3.out.below KW4.out).cell)
      | (go_at_call 49; (with_reducible refine (aWrite_at HD4 L2 HM HB KW4).mono ?_); rintro en w5 ⟨rfl, HD5, KW5⟩; have cB5 := (BB3.out.below KW5.out).cell)
      | (go_at_call 49; (with_reducible refine (aWrite_at HD5 L2 HM' HB KW5).mono ?_); rintro en w6 ⟨rfl, HD6, KW6⟩; have cA6 := (BA3.out.below KW6.out).cell; have cB6 := (BB3.out.below KW6.out).cell; have zA6 := (BA3.out.below KW6.out).lt; have zB6 := (BB3.out.below KW6.out).lt; have HD6B := Lib.hid (HD6.out.alloc (.cells #[.int .i64 n', .int .i64 e', .int .i64 a', .int .i64 w'] 58)); have HD6A := Lib.hid (HD6.out.alloc (.cells #[.int .i64 n, .int .i64 e, .int .i64 a, .int .i64 w] 58)); have K6B := Lib.hid (below_alloc' KW6.out (Nat.le_refl _) (.cells #[.int .i64 n', .int .i64 e', .int .i64 a', .int .i64 w'] 58)); have K6A := Lib.hid (below_alloc' KW6.out (Nat.le_refl _) (.cells #[.int .i64 n, .int .i64 e, .int .i64 a, .int .i64 w] 58)))
      | (go_at_call 47; (with_reducible refine (finds_at HD6A L2 HX K6A).mono ?_); rintro en w7 ⟨rfl, H7, KW7⟩; have cW := ((BXA.out w6).below H7.out).cell; have zW := ((BXA.out w6).below H7.out).lt)
      | (go_at_call 47; (with_reducible refine (finds_at HD6B L2 HX K6B).mono ?_); rintro en w7 ⟨rfl, H7, KW7⟩; have cW := ((BXB.out w6).below H7.out).cell; have zW := ((BXB.out w6).below H7.out).lt))
    go_ret
    exact ⟨rfl, HBV.out.trans ((K3.out.trans ((below_alloc' KW7.out (Nat.le_refl _) _).mono K3.out.size)).mono HBV.out.size)⟩
end Go.Proofs.Ytmeoiennniknlaa.Anchor
