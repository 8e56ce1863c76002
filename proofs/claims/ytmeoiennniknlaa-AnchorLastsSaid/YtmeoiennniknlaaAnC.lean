/- The contracts of anchor.Read, and of the reference's Sector and Read. -/
import Derived.Test.YtmeoiennniknlaaAnB
import Derived.StillTailTactics
namespace Go.Proofs.Ytmeoiennniknlaa.Anchor
open Go.RowKit Go.Shelf Go.Proofs.YtmeoiennniknlaaW.PrintWords Go.Proofs.Ytmeoiennniknlaa.Lb Go.Proofs.Ytmeoiennniknlaa.Sums
set_option linter.unusedVariables false
set_option linter.unusedSimpArgs false

theorem low_and (x : Int) (h0 : 0 ≤ x) (h1 : x < 18446744073709551616) : bits .and .u64 x 4294967295 = x % 4294967296 := by
  have h := u64_and_nat x.toNat 4294967295 (by omega) (by omega)
  rw [show (4294967295 : Nat) = 2 ^ 32 - 1 from rfl, Nat.and_two_pow_sub_one_eq_mod] at h
  rw [show ((x.toNat : Nat) : Int) = x by omega] at h
  rw [show (4294967295 : Int) = ((2 ^ 32 - 1 : Nat) : Int) from rfl, h]
  omega

set_option maxRecDepth 100000 in
set_option maxHeartbeats 400000 in
theorem low_any (W : World) (g : Nat) (s : List Int) (i : Int) (k : Nat) (hik : i = (k : Int)) (hk : k < 8) (x m : Int) (hx : (nums .u64 s)[k]? = some (.int .u64 x)) (h0 : 0 ≤ x) (h1 : x < 18446744073709551616) (hm : x % 4294967296 = m) (hB : Blk W g (nums .u64 s) 59) :
    Calls Try.prog 80 #[.int .i64 i, .pointer (some ⟨g, 0, none⟩)] W fun en W' => en = .returned (.int .i64 m) ∧ W = W' := by
  subst hik
  have q := hB.cell k
  rw [hx] at q
  have hbit := low_and x h0 h1
  rw [hm] at hbit
  have m0 : 0 ≤ m := by omega
  have m1 : m < 4294967296 := by omega
  have hki : (k : Int) < 8 := by omega
  clear hx hB hm hk
  go_enter Try.func80, Try.ntmps80
  go_wp2
  go_ret
  exact ⟨rfl, rfl⟩

theorem Blk.C {w : World} {g : Nat} {k : IntKind} {l : List Int} {t : TypeId} (h : Blk w g (nums k l) t) (hl : l.length ≤ 9223372036854775807) : (Kd.int k).C w (some ⟨g, 0, none⟩) l.length l := by
  refine C_of_cells k hl (fun j hj => ?_)
  have e1 : (⟨g, 0, none⟩ : Addr).add j = ⟨g, j, none⟩ := by unfold Addr.add; split <;> simp_all
  rw [e1, h.cell j]
  simp [nums, hj]
theorem len4 (a b c d : Nat) : Hid (4 = [a, b, c, d].length) := Lib.hid rfl
theorem refMark9_at {w W : World} {n : Nat} {A : Option Addr} {c m : Nat} {ws : List Nat} {xs : List Int} {mk : Nat} (hB : Hid (Below w.heap.size w W)) (hx : Hid (il ws = xs)) (hC : Hid ((Kd.int .u64).C w A m xs)) (hm : Hid (m = ws.length)) (hws : Hid (∀ x ∈ ws, x < 18446744073709551616)) (hn : n < 16777216) (hreach : m * 8 + 24 ≤ 140737488351232) (hc : m ≤ c) (hmk : Hid (Sums.mark 9 n ws = mk)) :
    Calls Try.prog 22 #[.int .i64 9, .int .i64 (n : Int), .slice A m c] W fun e w' => e = .returned (.tuple #[.int .u64 (mk : Int), .bool true]) ∧ Hid (Below w.heap.size w w') := by
  have e1 := hm.out
  subst e1
  have e2 := hx.out
  subst e2
  have h := refMark_at (c := c) (kind := 9) (n := n) (ws := ws) hB hC hws rfl (by decide) hn hreach hc
  rw [hmk.out] at h
  exact h

set_option maxRecDepth 100000 in
set_option maxHeartbeats 1000000 in
theorem refSector_any (W : World) (n e a w : Int) (h : ancB n e a w = true) :
    Calls Try.prog 44 #[.agg #[.int .i64 n, .int .i64 e, .int .i64 a, .int .i64 w]] W fun en W' => en = .returned (secV (ancS n e a w)) ∧ Below W.heap.size W W' := by
  obtain ⟨⟨hn0, hn1⟩, ⟨he0, he1⟩, ⟨ha0, ha1⟩, ⟨hw0, hw1⟩⟩ := ancB_true.1 h
  clear h
  have Hil : Hid (il [n.toNat, e.toNat, a.toNat, w.toNat] = [n, e, a, w]) := Lib.hid (by
    simp only [il, List.map_cons, List.map_nil]
    rw [show ((n.toNat : Nat) : Int) = n by omega, show ((e.toNat : Nat) : Int) = e by omega, show ((a.toNat : Nat) : Int) = a by omega, show ((w.toNat : Nat) : Int) = w by omega])
  have Hws : Hid (∀ x ∈ [n.toNat, e.toNat, a.toNat, w.toNat], x < 18446744073709551616) := Lib.hid (by
    intro x hx
    simp only [List.mem_cons, List.not_mem_nil, or_false] at hx
    omega)
  have hnm : n.toNat % 16777216 < 16777216 := Nat.mod_lt _ (by decide)
  have Hmk : Hid (Sums.mark 9 (n.toNat % 16777216) [n.toNat, e.toNat, a.toNat, w.toNat] = amark n e a w) := Lib.hid rfl
  obtain ⟨mk, hmk⟩ : ∃ m, m = amark n e a w := ⟨_, rfl⟩
  have Hml : Hid (ancS n e a w = [(mk : Int), n, e, a, w, 0, 0, 0]) := Lib.hid (by rw [hmk]; rfl)
  rw [← hmk] at Hmk
  clear hmk
  have hmod : n % 16777216 = ((n.toNat % 16777216 : Nat) : Int) := by omega
  obtain ⟨ns, hns⟩ : ∃ m, m = n.toNat % 16777216 := ⟨_, rfl⟩
  rw [← hns] at hmod hnm Hmk
  clear hns
  have HB0 := Lib.hid ((((Below.refl _ W).alloc (Nat.le_refl _) (.cells #[.int .i64 n, .int .i64 e, .int .i64 a, .int .i64 w] 58)).alloc (by simp) (.cells (nums .u64 zero8).toArray 59)).alloc (by simp; omega) (.cells (nums .u64 [n, e, a, w]).toArray 30))
  have B2 := Lib.hid ((Blk.new (W.alloc (.cells #[.int .i64 n, .int .i64 e, .int .i64 a, .int .i64 w] 58)) (nums .u64 zero8) 59).alloc (.cells (nums .u64 [n, e, a, w]).toArray 30))
  have B3 := Lib.hid (Blk.new ((W.alloc (.cells #[.int .i64 n, .int .i64 e, .int .i64 a, .int .i64 w] 58)).alloc (.cells (nums .u64 zero8).toArray 59)) (nums .u64 [n, e, a, w]) 30)
  go_enter Try.func44, Try.ntmps44
  have HC3 := Lib.hid (B3.out.C (by simp))
  simp only [World.size_alloc] at HC3
  go_wp2_with (go_at_call 22; (with_reducible refine (refMark9_at (n := ns) (Lib.hid (Below.refl _ _)) Hil ?_ (len4 _ _ _ _) Hws hnm (by decide) (by decide) Hmk).mono ?_); rotate_right; rintro en w3 ⟨rfl, Hb3⟩; have q3 := (B3.out.below Hb3.out).cell; have q2 := (B2.out.below Hb3.out).cell; have f2 := (B2.out.below Hb3.out).frozen; have HB3 := Lib.hid (HB0.out.trans (Hb3.out.mono HB0.out.size)); simp only [World.size_alloc, nums, zero8, List.map_cons, List.map_nil] at q2 q3 f2)
  case refine_1 => exact HC3
  go_still_tail 14, (by kernel_rfl)
  go_wp2
  exact bodyPost_ret (v := secV (ancS n e a w)) (by simp [results, Try.results44, go_sem, q2, f2, Hml.out, secV, nums]) rfl ⟨rfl, (below_set8 HB3.out (Nat.le_succ _) _ _ _ _ _ _ _ _).drew⟩
end Go.Proofs.Ytmeoiennniknlaa.Anchor
