/- The contract of slices.MaxFunc at one or two anchors. -/
import Derived.Test.YtmeoiennniknlaaAnF
import Derived.Deep.RegionHeld3
namespace Go.Proofs.Ytmeoiennniknlaa.Anchor
open Go.RowKit Go.Shelf Go.Proofs.YtmeoiennniknlaaW.PrintWords Go.Proofs.Ytmeoiennniknlaa.Lb Go.Proofs.Ytmeoiennniknlaa.Sums
set_option linter.unusedVariables false
set_option linter.unusedSimpArgs false

def cmpI (x y : Int) : Int := if x < y then -1 else if y < x then 1 else 0
set_option maxRecDepth 100000 in
set_option maxHeartbeats 400000 in
theorem nan_any (w : World) (x : Int) : Calls Try.prog 102 #[.int .i64 x] w fun en w' => en = .returned (.bool false) ∧ w = w' := by
  have h : (x != x) = false := by simp
  go_enter Try.func102, Try.ntmps102
  go_wp2
  go_ret
  exact ⟨rfl, rfl⟩
set_option maxRecDepth 100000 in
set_option maxHeartbeats 400000 in
theorem cmp_any (w : World) (x y : Int) : Calls Try.prog 84 #[.int .i64 x, .int .i64 y] w fun en w' => en = .returned (.int .i64 (cmpI x y)) ∧ w = w' := by
  by_cases h1 : x < y
  · have e : cmpI x y = -1 := by simp [cmpI, h1]
    rw [e]
    clear e
    go_enter Try.func84, Try.ntmps84
    go_wp2_with (go_at_call 102; (with_reducible refine (nan_any _ _).mono ?_); rintro en w1 ⟨rfl, rfl⟩)
    go_ret
    exact ⟨rfl, rfl⟩
  · by_cases h2 : y < x
    · have e : cmpI x y = 1 := by simp [cmpI, h1, h2]
      rw [e]
      clear e
      go_enter Try.func84, Try.ntmps84
      go_wp2_with (go_at_call 102; (with_reducible refine (nan_any _ _).mono ?_); rintro en w1 ⟨rfl, rfl⟩)
      go_ret
      exact ⟨rfl, rfl⟩
    · have e : cmpI x y = 0 := by simp [cmpI, h1, h2]
      rw [e]
      clear e
      go_enter Try.func84, Try.ntmps84
      go_wp2_with (go_at_call 102; (with_reducible refine (nan_any _ _).mono ?_); rintro en w1 ⟨rfl, rfl⟩)
      go_ret
      exact ⟨rfl, rfl⟩
set_option maxRecDepth 100000 in
set_option maxHeartbeats 400000 in
theorem more_any (W : World) (n e a w n' e' a' w' : Int) :
    Calls Try.prog 83 #[agg4 n e a w, agg4 n' e' a' w'] W fun en W' => en = .returned (.int .i64 (cmpI n n')) ∧ Below W.heap.size W W' := by
  go_enter Try.func83, Try.ntmps83
  go_wp2_with (go_at_call 84; (with_reducible refine (cmp_any _ _ _).mono ?_); rintro en w1 ⟨rfl, rfl⟩)
  go_ret
  exact ⟨rfl, ((Below.refl _ W).alloc (Nat.le_refl _) _).alloc (by simp) _⟩

set_option maxRecDepth 100000 in
set_option maxHeartbeats 1000000 in
theorem max_one (W : World) (g c : Nat) (n e a w : Int) (c0 : W.cell? ⟨g, 0, none⟩ = some (.int .i64 n)) (c1 : W.cell? ⟨g, 1, none⟩ = some (.int .i64 e)) (c2 : W.cell? ⟨g, 2, none⟩ = some (.int .i64 a)) (c3 : W.cell? ⟨g, 3, none⟩ = some (.int .i64 w)) :
    Calls Try.prog 82 #[.slice (some ⟨g, 0, none⟩) 1 c, .func (.func 83) #[] #[]] W fun en W' => en = .returned (agg4 n e a w) ∧ Below W.heap.size W W' := by
  have hg := World.block_lt_of_cell? W _ c0
  go_enter Try.func82, Try.ntmps82
  go_wp2
  refine wp_loop_rounds 1 ?_
  rw [rounds_succ]
  go_wp2
  exact bodyPost_ret (v := agg4 n e a w) (by simp [results, Try.results82, go_sem]) rfl ⟨rfl, ((Below.refl _ W).alloc (Nat.le_refl _) _).alloc (by simp) _⟩

theorem more_at {W : World} {n e a w n' e' a' w' c : Int} (hc : Hid (cmpI n n' = c)) :
    Calls Try.prog 83 #[agg4 n e a w, agg4 n' e' a' w'] W fun en W' => en = .returned (.int .i64 c) ∧ Hid (Below W.heap.size W W') := by
  have h := more_any W n e a w n' e' a' w'
  rw [hc.out] at h
  exact h.mono fun _ _ h => ⟨h.1, Lib.hid h.2⟩
set_option maxRecDepth 100000 in
set_option maxHeartbeats 2000000 in
theorem max_two (W : World) (g c : Nat) (n e a w n' e' a' w' : Int) (c0 : W.cell? ⟨g, 0, none⟩ = some (.int .i64 n)) (c1 : W.cell? ⟨g, 1, none⟩ = some (.int .i64 e)) (c2 : W.cell? ⟨g, 2, none⟩ = some (.int .i64 a)) (c3 : W.cell? ⟨g, 3, none⟩ = some (.int .i64 w)) (c4 : W.cell? ⟨g, 4, none⟩ = some (.int .i64 n')) (c5 : W.cell? ⟨g, 5, none⟩ = some (.int .i64 e')) (c6 : W.cell? ⟨g, 6, none⟩ = some (.int .i64 a')) (c7 : W.cell? ⟨g, 7, none⟩ = some (.int .i64 w')) (hc : 2 ≤ c) :
    Calls Try.prog 82 #[.slice (some ⟨g, 0, none⟩) 2 c, .func (.func 83) #[] #[]] W fun en W' => en = .returned (if n < n' then agg4 n' e' a' w' else agg4 n e a w) ∧ Below W.heap.size W W' := by
  have hg := World.block_lt_of_cell? W _ c0
  obtain ⟨r, hr⟩ : ∃ r, (if n < n' then agg4 n' e' a' w' else agg4 n e a w) = r := ⟨_, rfl⟩
  have HR := Lib.hid hr
  rw [hr]
  clear hr
  obtain ⟨b, hb⟩ : ∃ b, decide (n < n') = b := ⟨_, rfl⟩
  have Hb := Lib.hid hb
  obtain ⟨k, hk⟩ : ∃ k, cmpI n' n = k := ⟨_, rfl⟩
  have HK := Lib.hid hk
  have hkb : (b = true ∧ k = 1) ∨ (b = false ∧ k ≤ 0) := by
    rw [← hb, ← hk]
    unfold cmpI
    by_cases h1 : n < n'
    · left
      exact ⟨decide_eq_true h1, by rw [if_neg (by omega), if_pos h1]⟩
    · right
      refine ⟨decide_eq_false h1, ?_⟩
      split
      · decide
      · first | decide | (rw [if_neg h1]; decide)
  clear hb hk
  obtain ⟨V, hV⟩ : ∃ V, V = (W.alloc (.cells #[.int .i64 0, .int .i64 0, .int .i64 0, .int .i64 0] 58)).alloc (.cells #[.int .i64 n, .int .i64 e, .int .i64 a, .int .i64 w] 58) := ⟨_, rfl⟩
  have HBV : Hid (Below W.heap.size W V) := by rw [hV]; exact Lib.hid (((Below.refl _ W).alloc (Nat.le_refl _) _).alloc (by simp) _)
  have B4 : Hid (Blk V W.heap.size [.int .i64 0, .int .i64 0, .int .i64 0, .int .i64 0] 58) := by rw [hV]; exact Lib.hid ((Blk.new W [.int .i64 0, .int .i64 0, .int .i64 0, .int .i64 0] 58).alloc _)
  have B5 : Hid (Blk V (W.heap.size + 1) [.int .i64 n, .int .i64 e, .int .i64 a, .int .i64 w] 58) := by
    rw [hV]
    have h := Blk.new (W.alloc (.cells #[.int .i64 0, .int .i64 0, .int .i64 0, .int .i64 0] 58)) [.int .i64 n, .int .i64 e, .int .i64 a, .int .i64 w] 58
    rw [World.size_alloc] at h
    exact Lib.hid h
  have hgV : g < V.heap.size := Nat.lt_of_lt_of_le hg HBV.out.size
  go_enter Try.func82, Try.ntmps82
  go_wp2
  refine wp_loop_rounds 2 ?_
  rw [rounds_succ]
  go_wp2
  rw [← hV]
  clear hV
  have v4 := (HBV.out.cell (p := ⟨g, 4, none⟩) hg).trans c4
  have v5 := (HBV.out.cell (p := ⟨g, 5, none⟩) hg).trans c5
  have v6 := (HBV.out.cell (p := ⟨g, 6, none⟩) hg).trans c6
  have v7 := (HBV.out.cell (p := ⟨g, 7, none⟩) hg).trans c7
  have p5 := B5.out.cell
  clear c0 c1 c2 c3
  go_region_held3 (fun X => X.cell? ⟨g, 4, none⟩ = some (.int .i64 n') ∧ X.cell? ⟨g, 5, none⟩ = some (.int .i64 e') ∧ X.cell? ⟨g, 6, none⟩ = some (.int .i64 a') ∧ X.cell? ⟨g, 7, none⟩ = some (.int .i64 w') ∧ X.cell? ⟨W.heap.size + 1, 0, none⟩ = some (.int .i64 n) ∧ X.cell? ⟨W.heap.size + 1, 1, none⟩ = some (.int .i64 e) ∧ X.cell? ⟨W.heap.size + 1, 2, none⟩ = some (.int .i64 a) ∧ X.cell? ⟨W.heap.size + 1, 3, none⟩ = some (.int .i64 w))
    (first | go_keep)
    (first | (go_at_call 83; refine (more_at HK).mono ?_; rintro en w2 ⟨rfl, Hb2⟩; have k5 := (B5.out.drew.below Hb2.out).cell; have u4 := (Hb2.out.cell (p := ⟨g, 4, none⟩) hgV).trans v4; have u5 := (Hb2.out.cell (p := ⟨g, 5, none⟩) hgV).trans v5; have u6 := (Hb2.out.cell (p := ⟨g, 6, none⟩) hgV).trans v6; have u7 := (Hb2.out.cell (p := ⟨g, 7, none⟩) hgV).trans v7))
  have k4 := (B4.out.drew.below Hb2.out).cell
  have g4 := (B4.out.drew.below Hb2.out).frozen
  have g5 := (B5.out.drew.below Hb2.out).frozen
  have HB2 := Lib.hid (HBV.out.drew.trans (Hb2.out.mono (by simpa using HBV.out.size)))
  rcases hkb with ⟨rfl, rfl⟩ | ⟨rfl, hk0⟩
  · go_wp2
    rw [rounds_succ]
    go_wp2
    exact bodyPost_ret (v := agg4 n' e' a' w') (by simp [results, Try.results82, go_sem, k4, g4, k5, g5]) rfl ⟨by rw [← HR.out, if_pos (of_decide_eq_true Hb.out)], below_set4 (below_set4 HB2.out (Nat.le_succ _) _ _ _ _) (Nat.le_refl _) _ _ _ _⟩
  · go_wp2
    rw [rounds_succ]
    go_wp2
    exact bodyPost_ret (v := agg4 n e a w) (by simp [results, Try.results82, go_sem, k4, g4, k5, g5]) rfl ⟨by rw [← HR.out, if_neg (of_decide_eq_false Hb.out)], below_set4 HB2.out (Nat.le_refl _) _ _ _ _⟩
end Go.Proofs.Ytmeoiennniknlaa.Anchor
