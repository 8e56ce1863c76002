/- anchor.Find at a device; at none, and at one that is too small; the reference's Find. -/
import Derived.Test.YtmeoiennniknlaaAnH
namespace Go.Proofs.Ytmeoiennniknlaa.Anchor
open Go.RowKit Go.Shelf Go.Proofs.YtmeoiennniknlaaW.PrintWords Go.Proofs.Ytmeoiennniknlaa.Lb Go.Proofs.Ytmeoiennniknlaa.Sums
open Go.Proofs.Ytmeoiennniknlaa.Disk (Dsk Chg Sec cur upd thB)
set_option linter.unusedVariables false
set_option linter.unusedSimpArgs false

theorem rdA_num {s0 s1 s2 s3 s4 s5 s6 s7 : Int} (u : U64 s1) : 0 ≤ ((rdA s0 s1 s2 s3 s4 s5 s6 s7).getD ⟨0, 0, 0, 0⟩).n := by
  unfold rdA
  split
  · show 0 ≤ lo s1; unfold lo; have := u.1; omega
  · decide
theorem sec_u {s0 s1 s2 s3 s4 s5 s6 s7 : Int} (h : Sec [s0, s1, s2, s3, s4, s5, s6, s7]) : U64 s0 ∧ U64 s1 ∧ U64 s2 ∧ U64 s3 ∧ U64 s4 ∧ U64 s5 ∧ U64 s6 ∧ U64 s7 := by
  have h2 := h.2
  refine ⟨?_, ?_, ?_, ?_, ?_, ?_, ?_, ?_⟩
  all_goals exact h2 _ (by simp)
/-- Whether a sector's anchor counts at parity b. -/
theorem counts (r : Option Anc) (b : Int) : (r.isSome = true ∧ ((r.getD ⟨0, 0, 0, 0⟩).n % 2 == b) = true ∧ r.filter (fun x => x.n % 2 == b) = some (r.getD ⟨0, 0, 0, 0⟩)) ∨ ((r.isSome = false ∨ (r.isSome = true ∧ ((r.getD ⟨0, 0, 0, 0⟩).n % 2 == b) = false)) ∧ r.filter (fun x => x.n % 2 == b) = none) := by
  cases r with
  | none => exact Or.inr ⟨Or.inl rfl, rfl⟩
  | some x =>
    cases h : (x.n % 2 == b) with
    | true => exact Or.inl ⟨rfl, h, by simp [Option.filter, h]⟩
    | false => exact Or.inr ⟨Or.inr ⟨rfl, h⟩, by simp [Option.filter, h]⟩

theorem find_any {W : World} {d lb mb : Nat} {L : List (List Int)} {M : Nat → Option (List Int)} (h : Dsk W d lb mb L M) (hL : 2 ≤ L.length) (s0 s1 s2 s3 s4 s5 s6 s7 t0 t1 t2 t3 t4 t5 t6 t7 : Int)
    (hs : cur L M 0 = [s0, s1, s2, s3, s4, s5, s6, s7]) (ht : cur L M 1 = [t0, t1, t2, t3, t4, t5, t6, t7]) (us : Sec [s0, s1, s2, s3, s4, s5, s6, s7]) (ut : Sec [t0, t1, t2, t3, t4, t5, t6, t7]) :
    Calls Try.prog 47 #[.pointer (some ⟨d, 0, none⟩)] W fun en W' => en = .returned (findV (findA (rdA s0 s1 s2 s3 s4 s5 s6 s7) (rdA t0 t1 t2 t3 t4 t5 t6 t7))) ∧ Below W.heap.size W W' := by
  have D0 : ∀ V, Hid (Below W.heap.size W V) → Calls Try.prog 67 #[.pointer (some ⟨d, 0, none⟩), .int .i64 0] V fun en V' => en = .returned (.tuple #[agg8 s0 s1 s2 s3 s4 s5 s6 s7, .int .i64 0]) ∧ Below V.heap.size V V' := fun V hV => Disk.read_any (h.below hV.out) 0 (by omega) _ _ _ _ _ _ _ _ hs
  have D1 : ∀ V, Hid (Below W.heap.size W V) → Calls Try.prog 67 #[.pointer (some ⟨d, 0, none⟩), .int .i64 1] V fun en V' => en = .returned (.tuple #[agg8 t0 t1 t2 t3 t4 t5 t6 t7, .int .i64 0]) ∧ Below V.heap.size V V' := fun V hV => Disk.read_any (h.below hV.out) 1 (by omega) _ _ _ _ _ _ _ _ ht
  obtain ⟨_, us1, us2, us3, us4, _⟩ := sec_u us
  obtain ⟨_, ut1, ut2, ut3, ut4, _⟩ := sec_u ut
  have A0 := fun V => Anchor.read_any V s0 s1 s2 s3 s4 s5 s6 s7 us1 us2 us3 us4
  have A1 := fun V => Anchor.read_any V t0 t1 t2 t3 t4 t5 t6 t7 ut1 ut2 ut3 ut4
  have g0 := @rdA_num s0 s1 s2 s3 s4 s5 s6 s7 us1
  have g1 := @rdA_num t0 t1 t2 t3 t4 t5 t6 t7 ut1
  generalize rdA s0 s1 s2 s3 s4 s5 s6 s7 = r0 at *
  generalize rdA t0 t1 t2 t3 t4 t5 t6 t7 = r1 at *
  unfold findA
  rcases counts r0 0 with ⟨a1, a2, a3⟩ | ⟨a1, a3⟩
  · rcases counts r1 1 with ⟨b1, b2, b3⟩ | ⟨b1, b3⟩
    · rw [a3, b3]
      by_cases hlt : (r0.getD ⟨0, 0, 0, 0⟩).n < (r1.getD ⟨0, 0, 0, 0⟩).n
      · simp only [if_pos hlt]
        exact find_lt W _ s0 s1 s2 s3 s4 s5 s6 s7 t0 t1 t2 t3 t4 t5 t6 t7 _ _ _ _ g0 g1 ⟨a1, a2⟩ ⟨b1, b2⟩ hlt D0 D1 A0 A1
      · simp only [if_neg hlt]
        exact find_ge W _ s0 s1 s2 s3 s4 s5 s6 s7 t0 t1 t2 t3 t4 t5 t6 t7 _ _ _ _ g0 g1 ⟨a1, a2⟩ ⟨b1, b2⟩ (Int.not_lt.1 hlt) D0 D1 A0 A1
    · rw [a3, b3]
      exact find_10 W _ s0 s1 s2 s3 s4 s5 s6 s7 t0 t1 t2 t3 t4 t5 t6 t7 _ _ _ _ g0 g1 ⟨a1, a2⟩ b1 D0 D1 A0 A1
  · rcases counts r1 1 with ⟨b1, b2, b3⟩ | ⟨b1, b3⟩
    · rw [a3, b3]
      exact find_01 W _ s0 s1 s2 s3 s4 s5 s6 s7 t0 t1 t2 t3 t4 t5 t6 t7 _ _ _ _ g0 g1 a1 ⟨b1, b2⟩ D0 D1 A0 A1
    · rw [a3, b3]
      exact find_00 W _ s0 s1 s2 s3 s4 s5 s6 s7 t0 t1 t2 t3 t4 t5 t6 t7 _ _ _ _ g0 g1 a1 b1 D0 D1 A0 A1

/-! No device, or one that is too small. -/
set_option maxRecDepth 100000 in
set_option maxHeartbeats 1000000 in
theorem find_e0 (W : World) (p : Option Addr) (HD0 : ∀ V, Hid (Below W.heap.size W V) → Calls Try.prog 67 #[.pointer p, .int .i64 0] V fun en V' => en = .returned (.tuple #[agg8 0 0 0 0 0 0 0 0, .int .i64 3]) ∧ Below V.heap.size V V') :
    Calls Try.prog 47 #[.pointer p] W fun en W' => en = .returned (.tuple #[agg4 0 0 0 0, .int .i64 3]) ∧ Below W.heap.size W W' := by
  have HD0 := Lib.hid HD0
  obtain ⟨V, hV⟩ : ∃ V, V = W.alloc (.cells #[.int .i64 0, .int .i64 0, .int .i64 0, .int .i64 0] 58) := ⟨_, rfl⟩
  have HBV : Hid (Below W.heap.size W V) := by rw [hV]; exact Lib.hid ((Below.refl _ W).alloc (Nat.le_refl _) _)
  have BV : Hid (Blk V W.heap.size [.int .i64 0, .int .i64 0, .int .i64 0, .int .i64 0] 58) := by rw [hV]; exact Lib.hid (Blk.new W [.int .i64 0, .int .i64 0, .int .i64 0, .int .i64 0] 58)
  go_enter Try.func47, Try.ntmps47
  go_wp2_with fail
  rw [← hV]
  clear hV
  refine wp_loop_rounds 1 ?_
  rw [rounds_succ]
  go_wp2_with (go_at_call 67; (with_reducible refine (HD0.out _ HBV).mono ?_); rintro en w1 ⟨rfl, hb⟩; have q2 := (BV.out.below hb).cell; have f2 := (BV.out.below hb).frozen; have z2' := (BV.out.below hb).lt; have HBZ := Lib.hid (HBV.out.trans (hb.mono HBV.out.size)); clear hb)
  exact bodyPost_ret (v := .tuple #[agg4 0 0 0 0, .int .i64 3]) (by simp [results, Try.results47, go_sem, q2, f2, z2']) rfl ⟨rfl, below_alloc' (below_set4 HBZ.out (Nat.le_refl _) _ _ _ _) (Nat.le_refl _) _⟩
set_option maxRecDepth 100000 in
set_option maxHeartbeats 1000000 in
theorem find_e1 (W : World) (p : Option Addr) (s0 s1 s2 s3 s4 s5 s6 s7 : Int) (x : Anc) (HD0 : ∀ V, Hid (Below W.heap.size W V) → Calls Try.prog 67 #[.pointer p, .int .i64 0] V fun en V' => en = .returned (.tuple #[agg8 s0 s1 s2 s3 s4 s5 s6 s7, .int .i64 0]) ∧ Below V.heap.size V V')
    (HD1 : ∀ V, Hid (Below W.heap.size W V) → Calls Try.prog 67 #[.pointer p, .int .i64 1] V fun en V' => en = .returned (.tuple #[agg8 0 0 0 0 0 0 0 0, .int .i64 3]) ∧ Below V.heap.size V V')
    (HA0 : ∀ V, Calls Try.prog 41 #[agg8 s0 s1 s2 s3 s4 s5 s6 s7] V fun en V' => en = .returned (.tuple #[agg4 x.n x.e x.a x.w, .bool false]) ∧ Below V.heap.size V V') :
    Calls Try.prog 47 #[.pointer p] W fun en W' => en = .returned (.tuple #[agg4 0 0 0 0, .int .i64 3]) ∧ Below W.heap.size W W' := by
  have HD0 := Lib.hid HD0
  have HD1 := Lib.hid HD1
  have HA0 := Lib.hid HA0
  obtain ⟨V, hV⟩ : ∃ V, V = W.alloc (.cells #[.int .i64 0, .int .i64 0, .int .i64 0, .int .i64 0] 58) := ⟨_, rfl⟩
  have HBV : Hid (Below W.heap.size W V) := by rw [hV]; exact Lib.hid ((Below.refl _ W).alloc (Nat.le_refl _) _)
  have BV : Hid (Blk V W.heap.size [.int .i64 0, .int .i64 0, .int .i64 0, .int .i64 0] 58) := by rw [hV]; exact Lib.hid (Blk.new W [.int .i64 0, .int .i64 0, .int .i64 0, .int .i64 0] 58)
  go_enter Try.func47, Try.ntmps47
  go_wp2_with fail
  rw [← hV]
  clear hV
  refine wp_loop_rounds 2 ?_
  rw [rounds_succ]
  go_wp2_with (first
    | (go_at_call 67; (with_reducible refine (HD0.out _ HBV).mono ?_); rintro en w1 ⟨rfl, hb⟩; have K1 := Lib.hid (below_alloc' hb (Nat.le_refl _) (.cells #[.int .u64 s0, .int .u64 s1, .int .u64 s2, .int .u64 s3, .int .u64 s4, .int .u64 s5, .int .u64 s6, .int .u64 s7] 59)); clear hb)
    | (go_at_call 41; (with_reducible refine (HA0.out _).mono ?_); rintro en w2 ⟨rfl, hb⟩; have K2 := Lib.hid (below_alloc' (K1.out.trans (hb.mono K1.out.size)) (Nat.le_refl _) (.cells #[.int .i64 x.n, .int .i64 x.e, .int .i64 x.a, .int .i64 x.w] 58)); clear hb))
  rw [rounds_succ]
  go_wp2_with (go_at_call 67; (with_reducible refine (HD1.out _ (Lib.hid (HBV.out.trans (K2.out.mono HBV.out.size)))).mono ?_); rintro en w3 ⟨rfl, hb⟩; have K3 := Lib.hid (K2.out.trans (hb.mono K2.out.size)); have q2 := (BV.out.below K3.out).cell; have f2 := (BV.out.below K3.out).frozen; have z2' := (BV.out.below K3.out).lt; have HBZ := Lib.hid (HBV.out.trans (K3.out.mono HBV.out.size)); clear hb)
  exact bodyPost_ret (v := .tuple #[agg4 0 0 0 0, .int .i64 3]) (by simp [results, Try.results47, go_sem, q2, f2, z2']) rfl ⟨rfl, below_alloc' (below_set4 HBZ.out (Nat.le_refl _) _ _ _ _) (Nat.le_refl _) _⟩
end Go.Proofs.Ytmeoiennniknlaa.Anchor
