/- Anchors: what may be, their words, their sectors; contracts of package anchor's small functions. -/
import Derived.Test.YtmeoiennniknlaaFrA
namespace Go.Proofs.Ytmeoiennniknlaa.Anchor
open Go.RowKit Go.Shelf Go.Proofs.YtmeoiennniknlaaW.PrintWords Go.Proofs.Ytmeoiennniknlaa.Lb Go.Proofs.Ytmeoiennniknlaa.Sums
set_option linter.unusedVariables false
set_option linter.unusedSimpArgs false

def wiB (n lo hi : Int) : Bool := decide (lo ≤ n ∧ n ≤ hi)
theorem wiB_true {n lo hi : Int} : wiB n lo hi = true ↔ lo ≤ n ∧ n ≤ hi := by simp [wiB]
/-- An anchor that may be. -/
def ancB (n e a w : Int) : Bool := wiB n 1 4294967295 && (wiB e 0 4294967295 && (wiB a 0 1 && wiB w 0 1048576))
theorem ancB_true {n e a w : Int} : ancB n e a w = true ↔ (1 ≤ n ∧ n ≤ 4294967295) ∧ (0 ≤ e ∧ e ≤ 4294967295) ∧ (0 ≤ a ∧ a ≤ 1) ∧ (0 ≤ w ∧ w ≤ 1048576) := by
  simp [ancB, wiB]

set_option maxRecDepth 100000 in
set_option maxHeartbeats 400000 in
theorem within_any (w : World) (n lo hi : Int) :
    Calls Try.prog 101 #[.int .i64 n, .int .i64 lo, .int .i64 hi] w fun e w' => e = .returned (.bool (wiB n lo hi)) ∧ w = w' := by
  unfold wiB
  by_cases h1 : lo ≤ n
  · by_cases h2 : n ≤ hi
    all_goals
      go_enter Try.func101, Try.ntmps101
      go_wp2
      go_ret
      exact ⟨by simp [h1, h2], rfl⟩
  · go_enter Try.func101, Try.ntmps101
    go_wp2
    go_ret
    exact ⟨by simp; omega, rfl⟩
theorem within_at {w : World} {n lo hi : Int} {b : Bool} (hb : Hid (wiB n lo hi = b)) :
    Calls Try.prog 101 #[.int .i64 n, .int .i64 lo, .int .i64 hi] w fun e w' => e = .returned (.bool b) ∧ w = w' := by
  have h := within_any w n lo hi
  rw [hb.out] at h
  exact h

set_option maxRecDepth 100000 in
set_option maxHeartbeats 1000000 in
theorem may_any (W : World) (n e a w : Int) :
    Calls Try.prog 78 #[.agg #[.int .i64 n, .int .i64 e, .int .i64 a, .int .i64 w]] W fun en W' => en = .returned (.bool (ancB n e a w)) ∧ Below W.heap.size W W' := by
  obtain ⟨b1, h1⟩ : ∃ b, wiB n 1 4294967295 = b := ⟨_, rfl⟩
  obtain ⟨b2, h2⟩ : ∃ b, wiB e 0 4294967295 = b := ⟨_, rfl⟩
  obtain ⟨b3, h3⟩ : ∃ b, wiB a 0 1 = b := ⟨_, rfl⟩
  obtain ⟨b4, h4⟩ : ∃ b, wiB w 0 1048576 = b := ⟨_, rfl⟩
  have e1 : ancB n e a w = (b1 && (b2 && (b3 && b4))) := by unfold ancB; rw [h1, h2, h3, h4]
  rw [e1]
  have H1 := Lib.hid h1
  have H2 := Lib.hid h2
  have H3 := Lib.hid h3
  have H4 := Lib.hid h4
  clear h1 h2 h3 h4 e1
  cases b1 <;> cases b2 <;> cases b3 <;> cases b4
  all_goals
    go_enter Try.func78, Try.ntmps78
    go_wp2_with (go_at_call 101; (first | (with_reducible refine (within_at H1).mono ?_) | (with_reducible refine (within_at H2).mono ?_) | (with_reducible refine (within_at H3).mono ?_) | (with_reducible refine (within_at H4).mono ?_)); rintro en w1 ⟨rfl, rfl⟩)
    go_ret
    exact ⟨rfl, (Below.refl _ _).alloc (Nat.le_refl _) _⟩

theorem ret_bool {a b : Bool} (h : a = b) : Ending.returned (.bool a) = .returned (.bool b) := by rw [h]
theorem ancB_no {n e a w : Int} (h : ¬((1 ≤ n ∧ n ≤ 4294967295) ∧ (0 ≤ e ∧ e ≤ 4294967295) ∧ (0 ≤ a ∧ a ≤ 1) ∧ (0 ≤ w ∧ w ≤ 1048576))) : ancB n e a w = false := by
  cases hb : ancB n e a w with
  | false => rfl
  | true => exact absurd (ancB_true.1 hb) h

set_option maxRecDepth 100000 in
set_option maxHeartbeats 2000000 in
theorem refMay_any (W : World) (n e a w : Int) :
    Calls Try.prog 43 #[.agg #[.int .i64 n, .int .i64 e, .int .i64 a, .int .i64 w]] W fun en W' => en = .returned (.bool (ancB n e a w)) ∧ Below W.heap.size W W' := by
  obtain ⟨b, hb⟩ : ∃ b, b = ancB n e a w := ⟨_, rfl⟩
  rw [← hb]
  have HB := Lib.hid hb
  clear hb
  by_cases h1 : 1 ≤ n
  · by_cases h2 : n < 4294967296
    · by_cases h3 : 0 ≤ e
      · by_cases h4 : e < 4294967296
        · by_cases h5 : a = 0 ∨ a = 1
          · by_cases h6 : 0 ≤ w
            · by_cases h7 : w ≤ 1048576
              · have Hb : Hid (b = true) := Lib.hid (by rw [HB.out, ancB_true]; omega)
                rcases h5 with rfl | rfl
                all_goals
                  go_enter Try.func43, Try.ntmps43
                  go_wp2
                  go_ret
                  exact ⟨by rw [Hb.out]; rfl, (Below.refl _ _).alloc (Nat.le_refl _) _⟩
              · have Hb : Hid (b = false) := Lib.hid (by rw [HB.out]; exact ancB_no (by omega))
                rcases h5 with rfl | rfl
                all_goals
                  go_enter Try.func43, Try.ntmps43
                  go_wp2
                  go_ret
                  exact ⟨by rw [Hb.out]; rfl, (Below.refl _ _).alloc (Nat.le_refl _) _⟩
            · have Hb : Hid (b = false) := Lib.hid (by rw [HB.out]; exact ancB_no (by omega))
              rcases h5 with rfl | rfl
              all_goals
                go_enter Try.func43, Try.ntmps43
                go_wp2
                go_ret
                exact ⟨by rw [Hb.out]; rfl, (Below.refl _ _).alloc (Nat.le_refl _) _⟩
          · have Hb : Hid (b = false) := Lib.hid (by rw [HB.out]; exact ancB_no (by omega))
            have q0 : (a == 0) = false := by simp; omega
            have q1 : (a == 1) = false := by simp; omega
            clear h5
            go_enter Try.func43, Try.ntmps43
            go_wp2
            go_ret
            exact ⟨by rw [Hb.out]; rfl, (Below.refl _ _).alloc (Nat.le_refl _) _⟩
        · have Hb : Hid (b = false) := Lib.hid (by rw [HB.out]; exact ancB_no (by omega))
          go_enter Try.func43, Try.ntmps43
          go_wp2
          go_ret
          exact ⟨by rw [Hb.out]; rfl, (Below.refl _ _).alloc (Nat.le_refl _) _⟩
      · have Hb : Hid (b = false) := Lib.hid (by rw [HB.out]; exact ancB_no (by omega))
        go_enter Try.func43, Try.ntmps43
        go_wp2
        go_ret
        exact ⟨by rw [Hb.out]; rfl, (Below.refl _ _).alloc (Nat.le_refl _) _⟩
    · have Hb : Hid (b = false) := Lib.hid (by rw [HB.out]; exact ancB_no (by omega))
      go_enter Try.func43, Try.ntmps43
      go_wp2
      go_ret
      exact ⟨by rw [Hb.out]; rfl, (Below.refl _ _).alloc (Nat.le_refl _) _⟩
  · have Hb : Hid (b = false) := Lib.hid (by rw [HB.out]; exact ancB_no (by omega))
    go_enter Try.func43, Try.ntmps43
    go_wp2
    go_ret
    exact ⟨by rw [Hb.out]; rfl, (Below.refl _ _).alloc (Nat.le_refl _) _⟩

/-- The words of an anchor. -/
def ancW (n e a w : Int) : List Int := [n, e, a, w]
set_option maxRecDepth 100000 in
set_option maxHeartbeats 1000000 in
theorem words_any (W : World) (n e a w : Int) (hn : 0 ≤ n ∧ n ≤ 4294967295) (he : 0 ≤ e ∧ e ≤ 4294967295) (ha : 0 ≤ a ∧ a ≤ 4294967295) (hw : 0 ≤ w ∧ w ≤ 4294967295) :
    Calls Try.prog 79 #[.agg #[.int .i64 n, .int .i64 e, .int .i64 a, .int .i64 w]] W fun en W' => en = .returned (.slice (some ⟨W.heap.size + 1, 0, none⟩) 4 4) ∧
      W' = (W.alloc (.cells #[.int .i64 n, .int .i64 e, .int .i64 a, .int .i64 w] 58)).alloc (.cells #[.int .u64 n, .int .u64 e, .int .u64 a, .int .u64 w] 30) := by
  obtain ⟨hn0, hn1⟩ := hn
  obtain ⟨he0, he1⟩ := he
  obtain ⟨ha0, ha1⟩ := ha
  obtain ⟨hw0, hw1⟩ := hw
  go_enter Try.func79, Try.ntmps79
  go_wp2
  go_ret
  exact ⟨rfl, rfl⟩
end Go.Proofs.Ytmeoiennniknlaa.Anchor
