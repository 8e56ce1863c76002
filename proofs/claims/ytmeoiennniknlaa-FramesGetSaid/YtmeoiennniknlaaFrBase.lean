/- Frames: their words, marks; the plain law: what is put is told; the small contracts of package frames. -/
import Derived.Test.YtmeoiennniknlaaSumsTurned
namespace Go.Proofs.Ytmeoiennniknlaa.Frames
open Go.RowKit Go.Shelf Go.Proofs.YtmeoiennniknlaaW.PrintWords Go.Proofs.Ytmeoiennniknlaa.Lb Go.Proofs.Ytmeoiennniknlaa.Sums
set_option linter.unusedVariables false
set_option linter.unusedSimpArgs false

abbrev Fr := PFramesGet.S40
abbrev kF : Kd Fr := PFramesGet.k40
def mayB (kind : Int) (n : Nat) : Bool := decide (1 ≤ kind) && (decide (kind ≤ 255) && decide (n ≤ 2000))
def numB (n : Int) : Bool := decide (0 ≤ n) && decide (n ≤ 4294967295)
theorem mayB_true {kind : Int} {n : Nat} : mayB kind n = true ↔ 1 ≤ kind ∧ kind ≤ 255 ∧ n ≤ 2000 := by simp [mayB]
theorem numB_true {n : Int} : numB n = true ↔ 0 ≤ n ∧ n ≤ 4294967295 := by simp [numB]
/-- Words. -/
def WS (l : List Int) : Prop := ∀ x ∈ l, 0 ≤ x ∧ x < 18446744073709551616
theorem WS.il {l : List Int} (h : WS l) : il (l.map Int.toNat) = l := il_of l (fun x hx => (h x hx).1)
theorem WS.nat {l : List Int} (h : WS l) : ∀ x ∈ l.map Int.toNat, x < 18446744073709551616 := by
  intro x hx
  obtain ⟨y, hy, rfl⟩ := List.mem_map.1 hx
  have := h y hy
  omega
/-- The mark of a frame's words. -/
def fmark (e n kind : Nat) (l : List Int) : Nat := Sums.mark kind l.length (e :: n :: l.map Int.toNat)

set_option maxRecDepth 100000 in
set_option maxHeartbeats 400000 in
theorem may_any (w : World) (kind : Int) (A : Option Addr) (n c : Nat) (hn : n ≤ 140737488351232) :
    Calls Try.prog 30 #[.agg #[.int .i64 kind, .slice A n c]] w fun e w' => e = .returned (.bool (mayB kind n)) ∧ Below w.heap.size w w' := by
  unfold mayB
  by_cases h1 : 1 ≤ kind
  · by_cases h2 : kind ≤ 255
    · by_cases h3 : n ≤ 2000
      all_goals
        go_enter Try.func30, Try.ntmps30
        go_wp2
        go_ret
        exact ⟨by simp [h1, h2]; omega, (Below.refl _ w).alloc (Nat.le_refl _) _⟩
    · go_enter Try.func30, Try.ntmps30
      go_wp2
      go_ret
      exact ⟨by simp [h1]; omega, (Below.refl _ w).alloc (Nat.le_refl _) _⟩
  · go_enter Try.func30, Try.ntmps30
    go_wp2
    go_ret
    exact ⟨by simp; omega, (Below.refl _ w).alloc (Nat.le_refl _) _⟩

set_option maxRecDepth 100000 in
set_option maxHeartbeats 400000 in
theorem number_any (w : World) (n : Int) :
    Calls Try.prog 72 #[.int .i64 n] w fun e w' => e = .returned (.bool (numB n)) ∧ w = w' := by
  unfold numB
  by_cases h1 : 0 ≤ n
  · by_cases h2 : n ≤ 4294967295
    all_goals
      go_enter Try.func72, Try.ntmps72
      go_wp2
      go_ret
      exact ⟨by simp; omega, rfl⟩
  · go_enter Try.func72, Try.ntmps72
    go_wp2
    go_ret
    exact ⟨by simp; omega, rfl⟩

set_option maxRecDepth 100000 in
set_option maxHeartbeats 400000 in
theorem mark_call (w : World) (e n k : Nat) (he : e < 4294967296) (hn : n < 4294967296) (hk : k < 256) (A : Option Addr) (c : Nat) (l : List Int) (hl : WS l) (hlen : l.length ≤ 2000) (hC : (Kd.int .u64).C w A l.length l) :
    Calls Try.prog 73 #[.int .i64 (e : Int), .int .i64 (n : Int), .int .i64 (k : Int), .slice A l.length c] w fun en w' => en = .returned (.int .u64 ((fmark e n k l : Nat) : Int)) ∧ Below w.heap.size w w' := by
  have HC := Lib.hid hC
  have HL := Lib.hid hl
  have HB := Lib.hid (Below.refl w.heap.size w)
  have Hf : Hid (fmark e n k l = Sums.mark k l.length (e :: n :: l.map Int.toNat)) := rfl
  obtain ⟨f, hf⟩ : ∃ f, f = fmark e n k l := ⟨_, rfl⟩
  rw [← hf] at Hf ⊢
  have Hl2 := Lib.hid (show (l.map Int.toNat).length = l.length from List.length_map _)
  clear hC hl hf
  go_enter Try.func73, Try.ntmps73
  go_wp2_with (first
    | (at_builtin; refine app_lit_ints (w0 := w) .u64 23 30 8 Try.underlying23 infoU64 (by omega) rfl _ _ rfl [(e : Int), (n : Int)] l (il (e :: n :: l.map Int.toNat)) A l.length c (l.length + 1 + 1) 2 _ rfl rfl rfl rfl HC (by assumption) (by rw [il_cons, il_cons, HL.out.il]; rfl) (by simp [il]) (by omega) ?_; intro A1 c1 w1 hl1 HC1 HR1 Hb)
    | (go_at_call 21; (with_reducible refine (mark_at (w := w1) (ws := e :: n :: l.map Int.toNat) (Lib.hid (Below.refl _ _)) ?_ ?_ ?_ ?_ ?_).mono ?_); rotate_right; rintro en w' ⟨rfl, Hb2⟩))
  case refine_1 => rw [List.length_cons, List.length_cons, Hl2.out]; exact HC1
  case refine_2 => rw [List.length_cons, List.length_cons, Hl2.out]
  case refine_3 => exact hk
  case refine_4 => omega
  case refine_5 => rw [List.length_cons, List.length_cons, Hl2.out]; omega
  · rw [← Hf.out]
    go_ret
    exact ⟨rfl, Hb.out.trans (Hb2.out.mono Hb.out.size)⟩

/-! slices.Clone of words -/
set_option maxRecDepth 100000 in
set_option maxHeartbeats 400000 in
theorem clone_any (w : World) (A : Option Addr) (c : Nat) (l : List Int) (hlen : l.length * 8 ≤ 140737488355328) (hC : (Kd.int .u64).C w A l.length l) (hnil : A = none → c = 0) :
    Calls Try.prog 74 #[.slice A l.length c] w fun en w' => ∃ A1 c1, en = .returned (.slice A1 l.length c1) ∧ l.length ≤ c1 ∧ (Kd.int .u64).C w' A1 l.length l ∧ (Kd.int .u64).R 30 w' w.heap.size (fun _ => True) (.slice A1 l.length c1) l ∧ Below w.heap.size w w' := by
  have HC := Lib.hid hC
  have HB := Lib.hid (Below.refl w.heap.size w)
  cases A with
  | none =>
    have hl : l.length = 0 := by
      rcases Nat.eq_zero_or_pos l.length with h | h
      · exact h
      · obtain ⟨ad, e, _⟩ := hC.2.2 h
        cases e
    obtain rfl : l = [] := List.eq_nil_of_length_eq_zero hl
    obtain rfl := hnil rfl
    clear hC hl
    have e1 := fun w a l c n' c' => Lib.run_eql_slice_nil (P := Try.prog) w 23 30 a l c n' c' Try.underlying23
    go_enter Try.func74, Try.ntmps74
    go_wp2
    go_ret
    exact ⟨none, 0, rfl, Kd.C_nil _ _, Kd.R_nil _ _ _ _ _, Below.refl _ _⟩
  | some ad =>
    clear hC
    have e1 := fun w a l c n' c' => Lib.run_eql_slice_nil (P := Try.prog) w 23 30 a l c n' c' Try.underlying23
    go_enter Try.func74, Try.ntmps74
    go_wp2_with (at_builtin; refine app_lit_ints (w0 := w) .u64 23 30 8 Try.underlying23 infoU64 (by omega) rfl _ _ rfl [] l l (some ad) l.length c l.length 0 _ rfl rfl rfl rfl HC (by assumption) rfl rfl (by omega) ?_; intro A1 c1 w1 hl1 HC1 HR1 Hb)
    go_ret
    exact ⟨A1, c1, rfl, hl1, HC1.out, HR1.out, Hb.out⟩
end Go.Proofs.Ytmeoiennniknlaa.Frames
