/- The example of the statements of layer 7. -/
import Derived.Test.YtmeoiennniknlaaAnJ
namespace Go.Proofs.Ytmeoiennniknlaa.Anchor
open Go.RowKit Go.Shelf Go.Proofs.YtmeoiennniknlaaW.PrintWords Go.Proofs.Ytmeoiennniknlaa.Lb Go.Proofs.Ytmeoiennniknlaa.Sums
open Go.Proofs.Ytmeoiennniknlaa.Disk (Dsk Chg Sec cur upd thB secC)
set_option linter.unusedVariables false
set_option linter.unusedSimpArgs false

theorem rdA_anc {n e a w : Int} (h : ancB n e a w = true) : rdA (amark n e a w : Int) n e a w 0 0 0 = some ⟨n, e, a, w⟩ := by
  obtain ⟨⟨hn0, hn1⟩, ⟨he0, he1⟩, ⟨ha0, ha1⟩, ⟨hw0, hw1⟩⟩ := ancB_true.1 h
  have k1 : lo n = n := lo_small (by omega) (by omega)
  have k2 : lo e = e := lo_small (by omega) (by omega)
  have k3 : lo a = a := lo_small (by omega) (by omega)
  have k4 : lo w = w := lo_small (by omega) (by omega)
  unfold rdA
  rw [k1, k2, k3, k4, if_pos ⟨h, rfl⟩]
theorem sec_init (n i : Nat) (hi : i < n) : (List.replicate n zero8).getD i [] = zero8 := by
  rw [List.getD_eq_getElem?_getD, List.getElem?_replicate, if_pos hi]; rfl
theorem new_dsk (W : World) (n : Nat) (h1 : 1 ≤ n) (h2 : n ≤ 4096) :
    Calls Try.prog 45 #[.int .i64 (n : Int)] W fun en W' => ∃ d lb mb, en = .returned (.pointer (some ⟨d, 0, none⟩)) ∧ Dsk W' d lb mb (List.replicate n zero8) (fun _ => none) ∧
      (W.heap.size ≤ d ∧ W.heap.size ≤ lb ∧ W.heap.size ≤ mb) ∧ Below W.heap.size W W' := by
  refine (Disk.new_any W n h1 h2).mono ?_
  rintro en W' ⟨rfl, rfl⟩
  refine ⟨_, W.heap.size, W.heap.size + 1, rfl, ⟨by simpa using ⟨h1, h2⟩, ?_, ?_, ⟨0, 0, ?_⟩, ?_, ⟨.map [], Disk.MapIs.empty _, ?_⟩⟩, ⟨by omega, Nat.le_refl _, by omega⟩, ?_⟩
  · intro s hs
    rw [(List.mem_replicate.1 hs).2]
    exact Disk.Sec.zero
  · intro i s hs; cases hs
  · have h := Blk.new ((W.alloc (.cells (secC (List.replicate n zero8)).toArray 59)).alloc (.map #[] 0)) [.slice (some ⟨W.heap.size, 0, none⟩) n n, .map (some (W.heap.size + 1)), .int .i64 0, .int .i64 0] 118
    simp only [World.size_alloc] at h
    rw [List.length_replicate]
    exact h
  · exact ((Blk.new W (secC (List.replicate n zero8)) 59).alloc _).alloc _
  · have h := (World.ownsMap_made (w := W.alloc (.cells (secC (List.replicate n zero8)).toArray 59)) Try.prog 3 Disk.secR)
    rw [World.size_alloc] at h
    exact h.alloc _
  · exact (((Below.refl _ W).alloc (Nat.le_refl _) _).alloc (by simp) _).alloc (by simp; omega) _
theorem new_at {W : World} {n : Nat} {m : Int} (hm : Hid ((n : Int) = m)) (h : Hid (1 ≤ n ∧ n ≤ 4096)) :
    Calls Try.prog 45 #[.int .i64 m] W fun en W' => ∃ d lb mb, en = .returned (.pointer (some ⟨d, 0, none⟩)) ∧ Hid (Dsk W' d lb mb (List.replicate n zero8) (fun _ => none)) ∧
      Hid (W.heap.size ≤ d ∧ W.heap.size ≤ lb ∧ W.heap.size ≤ mb) ∧ Hid (Below W.heap.size W W') := by
  have e := hm.out
  subst e
  exact (new_dsk W n h.out.1 h.out.2).mono fun en W' ⟨d, lb, mb, h1, h2, h3, h4⟩ => ⟨d, lb, mb, h1, Lib.hid h2, Lib.hid h3, Lib.hid h4⟩
theorem aWrite_at {W V : World} {d lb mb : Nat} {L : List (List Int)} {M : Nat → Option (List Int)} {n e a w : Int} (h : Hid (Dsk V d lb mb L M)) (hL : Hid (2 ≤ L.length)) (hm : Hid (ancB n e a w = true)) (hB : Hid (W.heap.size ≤ d ∧ W.heap.size ≤ lb ∧ W.heap.size ≤ mb)) (hW : Hid (Below W.heap.size W V)) :
    Calls Try.prog 49 #[.pointer (some ⟨d, 0, none⟩), agg4 n e a w] V fun en V' => en = .returned (.int .i64 0) ∧ Hid (Dsk V' d lb mb L (upd M (n.toNat % 2) [(amark n e a w : Int), n, e, a, w, 0, 0, 0])) ∧ Hid (Below W.heap.size W V') := by
  refine (aWrite_in h.out hL.out n e a w hm.out).mono fun en V' ⟨h1, h2, h3⟩ => ⟨h1, Lib.hid h2, Lib.hid (hW.out.trans (h3.below hW.out.size ?_))⟩
  rintro k (rfl | rfl)
  · exact hB.out.1
  · exact hB.out.2.2
theorem find_at {W V : World} {d lb mb : Nat} {L : List (List Int)} {M : Nat → Option (List Int)} {x : Anc} (h : Hid (Dsk V d lb mb L M)) (hL : Hid (2 ≤ L.length)) (hx : Hid (∃ s0 s1 s2 s3 s4 s5 s6 s7 t0 t1 t2 t3 t4 t5 t6 t7, cur L M 0 = [s0, s1, s2, s3, s4, s5, s6, s7] ∧ cur L M 1 = [t0, t1, t2, t3, t4, t5, t6, t7] ∧ Sec [s0, s1, s2, s3, s4, s5, s6, s7] ∧ Sec [t0, t1, t2, t3, t4, t5, t6, t7] ∧ findA (rdA s0 s1 s2 s3 s4 s5 s6 s7) (rdA t0 t1 t2 t3 t4 t5 t6 t7) = some x)) (hW : Hid (Below W.heap.size W V)) :
    Calls Try.prog 47 #[.pointer (some ⟨d, 0, none⟩)] V fun en V' => en = .returned (.tuple #[agg4 x.n x.e x.a x.w, .int .i64 0]) ∧ Hid (Below W.heap.size W V') := by
  obtain ⟨s0, s1, s2, s3, s4, s5, s6, s7, t0, t1, t2, t3, t4, t5, t6, t7, h1, h2, h3, h4, h5⟩ := hx.out
  have H := find_any h.out hL.out _ _ _ _ _ _ _ _ _ _ _ _ _ _ _ _ h1 h2 h3 h4
  rw [h5] at H
  exact H.mono fun en V' ⟨h6, h7⟩ => ⟨h6, Lib.hid (hW.out.trans (h7.mono hW.out.size))⟩

theorem anc1 : ancB 1 0 0 0 = true := by decide
theorem anc2 : ancB 2 0 0 0 = true := by decide
theorem anc3 : ancB 3 0 0 0 = true := by decide
set_option maxRecDepth 100000 in
set_option maxHeartbeats 2000000 in
theorem alive7_any (W : World) : Calls Try.prog 39 #[] W fun en W' => en = .returned (.bool true) ∧ Below W.heap.size W W' := by
  have N2 : Hid (((2 : Nat) : Int) = 2) := Lib.hid rfl
  have L2 : Hid (2 ≤ (List.replicate 2 zero8).length) := Lib.hid (by decide)
  have A1 := Lib.hid anc1
  have A2 := Lib.hid anc2
  have A3 := Lib.hid anc3
  have R2 : Hid (1 ≤ 2 ∧ 2 ≤ 4096) := Lib.hid (by decide)
  have HX : Hid (∃ s0 s1 s2 s3 s4 s5 s6 s7 t0 t1 t2 t3 t4 t5 t6 t7, cur (List.replicate 2 zero8) (upd (upd (upd (fun _ => none) ((1 : Int).toNat % 2) [(amark 1 0 0 0 : Int), 1, 0, 0, 0, 0, 0, 0]) ((2 : Int).toNat % 2) [(amark 2 0 0 0 : Int), 2, 0, 0, 0, 0, 0, 0]) ((3 : Int).toNat % 2) [(amark 3 0 0 0 : Int), 3, 0, 0, 0, 0, 0, 0]) 0 = [s0, s1, s2, s3, s4, s5, s6, s7] ∧
      cur (List.replicate 2 zero8) (upd (upd (upd (fun _ => none) ((1 : Int).toNat % 2) [(amark 1 0 0 0 : Int), 1, 0, 0, 0, 0, 0, 0]) ((2 : Int).toNat % 2) [(amark 2 0 0 0 : Int), 2, 0, 0, 0, 0, 0, 0]) ((3 : Int).toNat % 2) [(amark 3 0 0 0 : Int), 3, 0, 0, 0, 0, 0, 0]) 1 = [t0, t1, t2, t3, t4, t5, t6, t7] ∧
      Sec [s0, s1, s2, s3, s4, s5, s6, s7] ∧ Sec [t0, t1, t2, t3, t4, t5, t6, t7] ∧ findA (rdA s0 s1 s2 s3 s4 s5 s6 s7) (rdA t0 t1 t2 t3 t4 t5 t6 t7) = some (⟨3, 0, 0, 0⟩ : Anc)) :=
    Lib.hid ⟨_, _, _, _, _, _, _, _, _, _, _, _, _, _, _, _, rfl, rfl, ancSec anc2, ancSec anc3, by rw [rdA_anc anc2, rdA_anc anc3]; rfl⟩
  obtain ⟨MM, hMM⟩ : ∃ M, M = upd (upd (upd (fun _ => none) ((1 : Int).toNat % 2) [(amark 1 0 0 0 : Int), 1, 0, 0, 0, 0, 0, 0]) ((2 : Int).toNat % 2) [(amark 2 0 0 0 : Int), 2, 0, 0, 0, 0, 0, 0]) ((3 : Int).toNat % 2) [(amark 3 0 0 0 : Int), 3, 0, 0, 0, 0, 0, 0] := ⟨_, rfl⟩
  rw [← hMM] at HX
  have HMM := Lib.hid hMM
  clear hMM
  go_enter Try.func39, Try.ntmps39
  go_wp2_with (go_at_call 45; (with_reducible refine (new_at N2 R2).mono ?_); rintro en w1 ⟨d, lb, mb, rfl, HD1, HB, HW1⟩)
  refine wp_loop_rounds 4 ?_
  rw [rounds_succ]
  go_wp2_with (go_at_call 49; (with_reducible refine (aWrite_at HD1 L2 A1 HB HW1).mono ?_); rintro en w2 ⟨rfl, HD2, HW2⟩)
  rw [rounds_succ]
  go_wp2_with (go_at_call 49; (with_reducible refine (aWrite_at HD2 L2 A2 HB HW2).mono ?_); rintro en w3 ⟨rfl, HD3, HW3⟩)
  rw [rounds_succ]
  go_wp2_with (go_at_call 49; (with_reducible refine (aWrite_at HD3 L2 A3 HB HW3).mono ?_); rintro en w4 ⟨rfl, HD4, HW4⟩)
  rw [rounds_succ]
  rw [← HMM.out] at HD4
  go_wp2_with (go_at_call 47; (with_reducible refine (find_at HD4 L2 HX HW4).mono ?_); rintro en w5 ⟨rfl, HW5⟩)
  go_ret
  exact ⟨rfl, HW5.out.alloc HW5.out.size _⟩
end Go.Proofs.Ytmeoiennniknlaa.Anchor
