/- The walk of the statement AnchorSectors. -/
import Derived.Test.YtmeoiennniknlaaAnK
namespace Go.Proofs.Ytmeoiennniknlaa.Anchor
open Go.RowKit Go.Shelf Go.Proofs.YtmeoiennniknlaaW.PrintWords Go.Proofs.Ytmeoiennniknlaa.Lb Go.Proofs.Ytmeoiennniknlaa.Sums
set_option linter.unusedVariables false
set_option linter.unusedSimpArgs false

theorem readA_at {V : World} {s0 s1 s2 s3 s4 s5 s6 s7 : Int} {r : Option Anc} (u : Hid (U64 s1 ∧ U64 s2 ∧ U64 s3 ∧ U64 s4)) (hr : Hid (rdA s0 s1 s2 s3 s4 s5 s6 s7 = r)) :
    Calls Try.prog 41 #[agg8 s0 s1 s2 s3 s4 s5 s6 s7] V fun en V' => en = .returned (ancV r) ∧ Hid (Below V.heap.size V V') := by
  have h := Anchor.read_any V s0 s1 s2 s3 s4 s5 s6 s7 u.out.1 u.out.2.1 u.out.2.2.1 u.out.2.2.2
  rw [hr.out] at h
  exact h.mono fun _ _ h => ⟨h.1, Lib.hid h.2⟩
theorem refReadA_at {V : World} {s0 s1 s2 s3 s4 s5 s6 s7 : Int} {r : Option Anc} (u : Hid (U64 s1 ∧ U64 s2 ∧ U64 s3 ∧ U64 s4)) (hr : Hid (rdA s0 s1 s2 s3 s4 s5 s6 s7 = r)) :
    Calls Try.prog 42 #[agg8 s0 s1 s2 s3 s4 s5 s6 s7] V fun en V' => en = .returned (ancV r) ∧ Hid (Below V.heap.size V V') := by
  have h := refRead_any V s0 s1 s2 s3 s4 s5 s6 s7 u.out.1 u.out.2.1 u.out.2.2.1 u.out.2.2.2
  rw [hr.out] at h
  exact h.mono fun _ _ h => ⟨h.1, Lib.hid h.2⟩

theorem readOwn (V : World) (n e a w : Int) (h : ancB n e a w = true) :
    Calls Try.prog 41 #[agg8 (amark n e a w : Int) n e a w 0 0 0] V fun en V' => en = .returned (.tuple #[agg4 n e a w, .bool true]) ∧ Hid (Below V.heap.size V V') := by
  obtain ⟨_, u1, u2, u3, u4, _⟩ := sec_u (ancSec h)
  have H := Anchor.read_any V (amark n e a w : Int) n e a w 0 0 0 u1 u2 u3 u4
  rw [rdA_anc h] at H
  exact H.mono fun _ _ h => ⟨h.1, Lib.hid h.2⟩

set_option maxRecDepth 100000 in
set_option maxHeartbeats 4000000 in
theorem sectors_any (W : World) (n e a w s0 s1 s2 s3 s4 s5 s6 s7 : Int) (us : U64 s1 ∧ U64 s2 ∧ U64 s3 ∧ U64 s4) :
    Calls Try.prog 11 #[agg4 n e a w, agg8 s0 s1 s2 s3 s4 s5 s6 s7] W fun en W' => en = .returned (.bool true) ∧ Below W.heap.size W W' := by
  have US := Lib.hid us
  obtain ⟨r, hr⟩ : ∃ r, rdA s0 s1 s2 s3 s4 s5 s6 s7 = r := ⟨_, rfl⟩
  have HR := Lib.hid hr
  obtain ⟨m, hm⟩ : ∃ m, ancB n e a w = m := ⟨_, rfl⟩
  have HM := Lib.hid hm
  clear hr us
  obtain ⟨V, hV⟩ : ∃ V, V = (W.alloc (.cells #[.int .i64 n, .int .i64 e, .int .i64 a, .int .i64 w] 58)).alloc (.cells #[.int .u64 s0, .int .u64 s1, .int .u64 s2, .int .u64 s3, .int .u64 s4, .int .u64 s5, .int .u64 s6, .int .u64 s7] 59) := ⟨_, rfl⟩
  have HBV : Hid (Below W.heap.size W V) := by rw [hV]; exact Lib.hid (((Below.refl _ W).alloc (Nat.le_refl _) _).alloc (by simp) _)
  have BA : Hid (Blk V W.heap.size [.int .i64 n, .int .i64 e, .int .i64 a, .int .i64 w] 58) := by rw [hV]; exact Lib.hid ((Blk.new W [.int .i64 n, .int .i64 e, .int .i64 a, .int .i64 w] 58).alloc _)
  have BS : Hid (Blk V (W.heap.size + 1) [.int .u64 s0, .int .u64 s1, .int .u64 s2, .int .u64 s3, .int .u64 s4, .int .u64 s5, .int .u64 s6, .int .u64 s7] 59) := by
    rw [hV]
    have h := Blk.new (W.alloc (.cells #[.int .i64 n, .int .i64 e, .int .i64 a, .int .i64 w] 58)) [.int .u64 s0, .int .u64 s1, .int .u64 s2, .int .u64 s3, .int .u64 s4, .int .u64 s5, .int .u64 s6, .int .u64 s7] 59
    rw [World.size_alloc] at h
    exact Lib.hid h
  cases m with
  | false =>
    clear hm
    have heq : ∀ W' : World, (Op.equalIn 10000 59 (agg8 0 0 0 0 0 0 0 0) (agg8 0 0 0 0 0 0 0 0)).run Try.prog W' = .ok true W' := fun W' => ArrEq.sector_eq [0, 0, 0, 0, 0, 0, 0, 0] [0, 0, 0, 0, 0, 0, 0, 0] rfl rfl W'
    go_enter Try.func11, Try.ntmps11
    go_wp2_with fail
    rw [← hV]
    clear hV
    go_wp2_with (first
      | (go_at_call 39; (with_reducible refine (alive7_any _).mono ?_); rintro en w1 ⟨rfl, hb⟩; have K1 := Lib.hid hb; have cA := (BA.out.below hb).cell; have zA := (BA.out.below hb).lt; clear hb)
      | (go_at_call 40; (with_reducible refine (sector_not HM).mono ?_); rintro en w2 ⟨rfl, Hb⟩; have K2 := Lib.hid (K1.out.trans (Hb.out.mono K1.out.size)); have K2a := Lib.hid (below_alloc' K2.out (Nat.le_refl _) (.cells #[.int .u64 0, .int .u64 0, .int .u64 0, .int .u64 0, .int .u64 0, .int .u64 0, .int .u64 0, .int .u64 0] 59)); have BT := Lib.hid (Blk.new w2 [.int .u64 0, .int .u64 0, .int .u64 0, .int .u64 0, .int .u64 0, .int .u64 0, .int .u64 0, .int .u64 0] 59); have cS := (BS.out.below K2.out).cell; have zS := (BS.out.below K2.out).lt; clear Hb)
      | (go_at_call 41; (with_reducible refine (readA_at US HR).mono ?_); rintro en w3 ⟨rfl, Hb⟩; have K3 := Lib.hid (K2a.out.trans (Hb.out.mono K2a.out.size)); have BT3 := Lib.hid (BT.out.below Hb.out); have K3a := Lib.hid (below_alloc' K3.out (Nat.le_refl _) (.cells #[.int .i64 (r.getD ⟨0, 0, 0, 0⟩).n, .int .i64 (r.getD ⟨0, 0, 0, 0⟩).e, .int .i64 (r.getD ⟨0, 0, 0, 0⟩).a, .int .i64 (r.getD ⟨0, 0, 0, 0⟩).w] 58)); have BX := Lib.hid (Blk.new w3 [.int .i64 (r.getD ⟨0, 0, 0, 0⟩).n, .int .i64 (r.getD ⟨0, 0, 0, 0⟩).e, .int .i64 (r.getD ⟨0, 0, 0, 0⟩).a, .int .i64 (r.getD ⟨0, 0, 0, 0⟩).w] 58); have cS3 := (BS.out.below K3.out).cell; have zS3 := (BS.out.below K3.out).lt; clear Hb)
      | (go_at_call 42; (with_reducible refine (refReadA_at US HR).mono ?_); rintro en w4 ⟨rfl, Hb⟩; have K4 := Lib.hid (K3a.out.trans (Hb.out.mono K3a.out.size)); have K4a := Lib.hid (below_alloc' K4.out (Nat.le_refl _) (.cells #[.int .i64 (r.getD ⟨0, 0, 0, 0⟩).n, .int .i64 (r.getD ⟨0, 0, 0, 0⟩).e, .int .i64 (r.getD ⟨0, 0, 0, 0⟩).a, .int .i64 (r.getD ⟨0, 0, 0, 0⟩).w] 58)); have BX4 := Lib.hid (BX.out.below Hb.out); have BT4 := Lib.hid (((BT3.out).alloc _).below Hb.out); have BY := Lib.hid (Blk.new w4 [.int .i64 (r.getD ⟨0, 0, 0, 0⟩).n, .int .i64 (r.getD ⟨0, 0, 0, 0⟩).e, .int .i64 (r.getD ⟨0, 0, 0, 0⟩).a, .int .i64 (r.getD ⟨0, 0, 0, 0⟩).w] 58); have cA4 := (BA.out.below K4.out).cell; have zA4 := (BA.out.below K4.out).lt; clear Hb)
      | (go_at_call 43; (with_reducible refine (refMay_at HM).mono ?_); rintro en w5 ⟨rfl, Hb⟩; have K5 := Lib.hid (K4a.out.trans (Hb.out.mono K4a.out.size)); have cX := ((BX4.out.alloc _).below Hb.out).cell; have cY := (BY.out.below Hb.out).cell; have cT := ((BT4.out.alloc _).below Hb.out).cell; clear Hb))
    go_ret
    exact ⟨rfl, HBV.out.trans (K5.out.mono HBV.out.size)⟩
  | true =>
    obtain ⟨mk, hk⟩ : ∃ m, amark n e a w = m := ⟨_, rfl⟩
    have HK := Lib.hid hk
    have HO := Lib.hid (fun V => readOwn V n e a w hm)
    rw [hk] at HO
    have heq : ∀ W' : World, (Op.equalIn 10000 59 (agg8 (mk : Int) n e a w 0 0 0) (agg8 (mk : Int) n e a w 0 0 0)).run Try.prog W' = .ok true W' := fun W' => by
      have h := ArrEq.sector_eq [(mk : Int), n, e, a, w, 0, 0, 0] [(mk : Int), n, e, a, w, 0, 0, 0] rfl rfl W'
      rw [decide_eq_true rfl] at h
      exact h
    clear hm hk
    go_enter Try.func11, Try.ntmps11
    go_wp2_with fail
    rw [← hV]
    clear hV
    go_wp2_with (first
      | (go_at_call 39; (with_reducible refine (alive7_any _).mono ?_); rintro en w1 ⟨rfl, hb⟩; have K1 := Lib.hid hb; have cA := (BA.out.below hb).cell; have zA := (BA.out.below hb).lt; clear hb)
      | (go_at_call 40; (with_reducible refine (sector_at HM HK).mono ?_); rintro en w2 ⟨rfl, Hb⟩; have K2 := Lib.hid (K1.out.trans (Hb.out.mono K1.out.size)); have K2a := Lib.hid (below_alloc' K2.out (Nat.le_refl _) (.cells #[.int .u64 (mk : Int), .int .u64 n, .int .u64 e, .int .u64 a, .int .u64 w, .int .u64 0, .int .u64 0, .int .u64 0] 59)); have BT := Lib.hid (Blk.new w2 [.int .u64 (mk : Int), .int .u64 n, .int .u64 e, .int .u64 a, .int .u64 w, .int .u64 0, .int .u64 0, .int .u64 0] 59); have cS := (BS.out.below K2.out).cell; have zS := (BS.out.below K2.out).lt; clear Hb)
      | (go_at_call 41; (with_reducible refine (readA_at US HR).mono ?_); rintro en w3 ⟨rfl, Hb⟩; have K3 := Lib.hid (K2a.out.trans (Hb.out.mono K2a.out.size)); have BT3 := Lib.hid (BT.out.below Hb.out); have K3a := Lib.hid (below_alloc' K3.out (Nat.le_refl _) (.cells #[.int .i64 (r.getD ⟨0, 0, 0, 0⟩).n, .int .i64 (r.getD ⟨0, 0, 0, 0⟩).e, .int .i64 (r.getD ⟨0, 0, 0, 0⟩).a, .int .i64 (r.getD ⟨0, 0, 0, 0⟩).w] 58)); have BX := Lib.hid (Blk.new w3 [.int .i64 (r.getD ⟨0, 0, 0, 0⟩).n, .int .i64 (r.getD ⟨0, 0, 0, 0⟩).e, .int .i64 (r.getD ⟨0, 0, 0, 0⟩).a, .int .i64 (r.getD ⟨0, 0, 0, 0⟩).w] 58); have cS3 := (BS.out.below K3.out).cell; have zS3 := (BS.out.below K3.out).lt; clear Hb)
      | (go_at_call 42; (with_reducible refine (refReadA_at US HR).mono ?_); rintro en w4 ⟨rfl, Hb⟩; have K4 := Lib.hid (K3a.out.trans (Hb.out.mono K3a.out.size)); have K4a := Lib.hid (below_alloc' K4.out (Nat.le_refl _) (.cells #[.int .i64 (r.getD ⟨0, 0, 0, 0⟩).n, .int .i64 (r.getD ⟨0, 0, 0, 0⟩).e, .int .i64 (r.getD ⟨0, 0, 0, 0⟩).a, .int .i64 (r.getD ⟨0, 0, 0, 0⟩).w] 58)); have BX4 := Lib.hid (BX.out.below Hb.out); have BT4 := Lib.hid (((BT3.out).alloc _).below Hb.out); have BY := Lib.hid (Blk.new w4 [.int .i64 (r.getD ⟨0, 0, 0, 0⟩).n, .int .i64 (r.getD ⟨0, 0, 0, 0⟩).e, .int .i64 (r.getD ⟨0, 0, 0, 0⟩).a, .int .i64 (r.getD ⟨0, 0, 0, 0⟩).w] 58); have cA4 := (BA.out.below K4.out).cell; have zA4 := (BA.out.below K4.out).lt; clear Hb)
      | (go_at_call 43; (with_reducible refine (refMay_at HM).mono ?_); rintro en w5 ⟨rfl, Hb⟩; have K5 := Lib.hid (K4a.out.trans (Hb.out.mono K4a.out.size)); have cX := ((BX4.out.alloc _).below Hb.out).cell; have cY := (BY.out.below Hb.out).cell; have BT5 := Lib.hid ((BT4.out.alloc _).below Hb.out); have cT := BT5.out.cell; clear Hb)
      | (go_at_call 41; (with_reducible refine (HO.out _).mono ?_); rintro en w6 ⟨rfl, Hb⟩; have K6 := Lib.hid (K5.out.trans (Hb.out.mono K5.out.size)); have BT6 := Lib.hid (BT5.out.below Hb.out); clear Hb))
    obtain ⟨U, hU⟩ : ∃ U, U = w6.alloc (.cells #[.int .i64 n, .int .i64 e, .int .i64 a, .int .i64 w] 58) := ⟨_, rfl⟩
    have KU : Hid (Below V.heap.size V U) := by rw [hU]; exact Lib.hid (below_alloc' K6.out (Nat.le_refl _) _)
    have BTU : Hid (Blk U w2.heap.size [.int .u64 (mk : Int), .int .u64 n, .int .u64 e, .int .u64 a, .int .u64 w, .int .u64 0, .int .u64 0, .int .u64 0] 59) := by rw [hU]; exact Lib.hid (BT6.out.alloc _)
    have BZU : Hid (Blk U w6.heap.size [.int .i64 n, .int .i64 e, .int .i64 a, .int .i64 w] 58) := by rw [hU]; exact Lib.hid (Blk.new w6 [.int .i64 n, .int .i64 e, .int .i64 a, .int .i64 w] 58)
    have BAU : Hid (Blk U W.heap.size [.int .i64 n, .int .i64 e, .int .i64 a, .int .i64 w] 58) := Lib.hid (BA.out.below KU.out)
    rw [← hU]
    clear hU
    have u1 := BTU.out.cell
    have u2 := BZU.out.cell
    have u3 := BAU.out.cell
    go_region_held3 (fun X => X.cell? ⟨w2.heap.size, 0, none⟩ = some (.int .u64 (mk : Int)) ∧ X.cell? ⟨w2.heap.size, 1, none⟩ = some (.int .u64 n) ∧ X.cell? ⟨w2.heap.size, 2, none⟩ = some (.int .u64 e) ∧ X.cell? ⟨w2.heap.size, 3, none⟩ = some (.int .u64 a) ∧ X.cell? ⟨w2.heap.size, 4, none⟩ = some (.int .u64 w) ∧ X.cell? ⟨w2.heap.size, 5, none⟩ = some (.int .u64 0) ∧ X.cell? ⟨w2.heap.size, 6, none⟩ = some (.int .u64 0) ∧ X.cell? ⟨w2.heap.size, 7, none⟩ = some (.int .u64 0) ∧ X.cell? ⟨W.heap.size, 0, none⟩ = some (.int .i64 n) ∧ X.cell? ⟨W.heap.size, 1, none⟩ = some (.int .i64 e) ∧ X.cell? ⟨W.heap.size, 2, none⟩ = some (.int .i64 a) ∧ X.cell? ⟨W.heap.size, 3, none⟩ = some (.int .i64 w) ∧ X.cell? ⟨w6.heap.size, 0, none⟩ = some (.int .i64 n) ∧ X.cell? ⟨w6.heap.size, 1, none⟩ = some (.int .i64 e) ∧ X.cell? ⟨w6.heap.size, 2, none⟩ = some (.int .i64 a) ∧ X.cell? ⟨w6.heap.size, 3, none⟩ = some (.int .i64 w))
      (first | go_keep)
      (first | (go_at_call 44; refine (refSector_at HM HK).mono ?_; rintro en w8 ⟨rfl, Hb8⟩; have v1 := (BTU.out.drew.below Hb8.out).cell; have v2 := (BZU.out.drew.below Hb8.out).cell; have v3 := (BAU.out.drew.below Hb8.out).cell))
    go_wp2
    go_ret
    exact ⟨rfl, HBV.out.trans ((KU.out.drew.trans (Hb8.out.mono (by simpa using KU.out.size))).mono HBV.out.size)⟩
end Go.Proofs.Ytmeoiennniknlaa.Anchor
