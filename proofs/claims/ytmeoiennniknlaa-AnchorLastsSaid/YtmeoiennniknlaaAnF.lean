/- The contracts of anchor.Write; slices.MaxFunc of anchors; anchor.Find. -/
import Derived.Test.YtmeoiennniknlaaAnE
import Derived.Test.YtmeoiennniknlaaDkE
namespace Go.Proofs.Ytmeoiennniknlaa.Anchor
open Go.RowKit Go.Shelf Go.Proofs.YtmeoiennniknlaaW.PrintWords Go.Proofs.Ytmeoiennniknlaa.Lb Go.Proofs.Ytmeoiennniknlaa.Sums
open Go.Proofs.Ytmeoiennniknlaa.Disk (Dsk Chg Sec cur upd thB)
set_option linter.unusedVariables false
set_option linter.unusedSimpArgs false

theorem amark_lt {n e a w : Int} : amark n e a w < 18446744073709551616 := (Sums.mark_open (k := 9) (n := n.toNat % 16777216) (by decide) (Nat.mod_lt _ (by decide)) _).2.2.2
theorem ancSec {n e a w : Int} (h : ancB n e a w = true) : Sec [(amark n e a w : Int), n, e, a, w, 0, 0, 0] := by
  obtain ⟨⟨hn0, hn1⟩, ⟨he0, he1⟩, ⟨ha0, ha1⟩, ⟨hw0, hw1⟩⟩ := ancB_true.1 h
  refine ⟨rfl, fun x hx => ?_⟩
  have := @amark_lt n e a w
  simp only [List.mem_cons, List.not_mem_nil, or_false] at hx
  omega
theorem aset_at {w : World} {d lb mb : Nat} {L : List (List Int)} {M : Nat → Option (List Int)} {i : Nat} {j : Int} {s0 s1 s2 s3 s4 s5 s6 s7 : Int} (h : Hid (Dsk w d lb mb L M)) (hi : Hid (i < L.length)) (hj : Hid ((i : Int) = j)) (hs : Hid (Sec [s0, s1, s2, s3, s4, s5, s6, s7])) :
    Calls Try.prog 46 #[.pointer (some ⟨d, 0, none⟩), .int .i64 j, agg8 s0 s1 s2 s3 s4 s5 s6 s7] w fun en w' => en = .returned (.int .i64 0) ∧ Hid (Dsk w' d lb mb L (upd M i [s0, s1, s2, s3, s4, s5, s6, s7])) ∧ Hid (Chg (fun k => k = d ∨ k = mb) w w') := by
  have e := hj.out
  subst e
  exact (Disk.write_in h.out i hi.out s0 s1 s2 s3 s4 s5 s6 s7 hs.out).mono fun en w' ⟨h1, h2, h3⟩ => ⟨h1, Lib.hid h2, Lib.hid h3⟩

set_option maxRecDepth 100000 in
set_option maxHeartbeats 1000000 in
theorem aWrite_in {V : World} {d lb mb : Nat} {L : List (List Int)} {M : Nat → Option (List Int)} (h : Dsk V d lb mb L M) (hL : 2 ≤ L.length) (n e a w : Int) (hm : ancB n e a w = true) :
    Calls Try.prog 49 #[.pointer (some ⟨d, 0, none⟩), agg4 n e a w] V fun en V' => en = .returned (.int .i64 0) ∧ Dsk V' d lb mb L (upd M (n.toNat % 2) [(amark n e a w : Int), n, e, a, w, 0, 0, 0]) ∧ Chg (fun k => k = d ∨ k = mb) V V' := by
  have HM := Lib.hid hm
  obtain ⟨⟨hn0, hn1⟩, _⟩ := ancB_true.1 hm
  have H0 := Lib.hid h
  obtain ⟨mk, hk⟩ : ∃ m, m = amark n e a w := ⟨_, rfl⟩
  have HK : Hid (amark n e a w = mk) := Lib.hid hk.symm
  have HS : Hid (Sec [(mk : Int), n, e, a, w, 0, 0, 0]) := Lib.hid (by rw [hk]; exact ancSec hm)
  rw [← hk]
  obtain ⟨i, hi⟩ : ∃ i, i = n.toNat % 2 := ⟨_, rfl⟩
  have HI : Hid (i < L.length) := Lib.hid (by have := Nat.mod_lt n.toNat (show 0 < 2 by decide); omega)
  have HJ : Hid ((i : Int) = n % 2) := Lib.hid (by omega)
  rw [← hi]
  have B1 := Lib.hid (Blk.new V [.int .i64 n, .int .i64 e, .int .i64 a, .int .i64 w] 58)
  have HB := Lib.hid ((Below.refl _ V).alloc (Nat.le_refl _) (.cells #[.int .i64 n, .int .i64 e, .int .i64 a, .int .i64 w] 58))
  clear hm hk hi h hL
  go_enter Try.func49, Try.ntmps49
  go_wp2_with (first
    | (go_at_call 40; (with_reducible refine (sector_at HM HK).mono ?_); rintro en w1 ⟨rfl, Hb1⟩; have C1 := B1.out.below Hb1.out; have q1 := C1.cell; have z1 := C1.lt; have HB1 := Lib.hid (HB.out.trans (Hb1.out.mono HB.out.size)); have H1 := Lib.hid (fun o => (H0.out.below HB1.out).alloc o); clear C1)
    | (go_at_call 46; (with_reducible refine (aset_at (Lib.hid (H1.out _)) HI HJ HS).mono ?_); rintro en w2 ⟨rfl, HD, HC⟩))
  go_ret
  exact ⟨rfl, HD.out, (Chg.of_below (HB1.out.alloc HB1.out.size _)).trans HC.out⟩

set_option maxRecDepth 100000 in
set_option maxHeartbeats 1000000 in
theorem aWrite_no (V : World) (p : Option Addr) (n e a w : Int) (hm : ancB n e a w = false) :
    Calls Try.prog 49 #[.pointer p, agg4 n e a w] V fun en V' => en = .returned (.int .i64 1) ∧ Below V.heap.size V V' := by
  have HM := Lib.hid hm
  have HB := Lib.hid ((Below.refl _ V).alloc (Nat.le_refl _) (.cells #[.int .i64 n, .int .i64 e, .int .i64 a, .int .i64 w] 58))
  clear hm
  go_enter Try.func49, Try.ntmps49
  go_wp2_with (go_at_call 40; (with_reducible refine (sector_not HM).mono ?_); rintro en w1 ⟨rfl, Hb1⟩; have HB1 := Lib.hid (HB.out.trans (Hb1.out.mono HB.out.size)))
  go_ret
  exact ⟨rfl, HB1.out.alloc HB1.out.size _⟩
end Go.Proofs.Ytmeoiennniknlaa.Anchor
