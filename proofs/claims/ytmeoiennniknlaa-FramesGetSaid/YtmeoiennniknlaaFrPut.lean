/- The contract of frames.Put. -/
import Derived.Test.YtmeoiennniknlaaFrBase
import Derived.Deep.RegionHeld3
namespace Go.Proofs.Ytmeoiennniknlaa.Frames
open Go.RowKit Go.Shelf Go.Proofs.YtmeoiennniknlaaW.PrintWords Go.Proofs.Ytmeoiennniknlaa.Lb Go.Proofs.Ytmeoiennniknlaa.Sums
set_option linter.unusedVariables false
set_option linter.unusedSimpArgs false

section
variable {w W : World}
theorem may_at {kind : Int} {A : Option Addr} {n c : Nat} {b : Bool} (hB : Hid (Below w.heap.size w W)) (hn : n ≤ 140737488351232) (hb : Hid (mayB kind n = b)) :
    Calls Try.prog 30 #[.agg #[.int .i64 kind, .slice A n c]] W fun e w' => e = .returned (.bool b) ∧ Hid (Below w.heap.size w w') := by
  have h := hB_at hB (may_any W kind A n c hn); rw [hb.out] at h; exact h
theorem number_at {n : Int} {b : Bool} (hb : Hid (numB n = b)) :
    Calls Try.prog 72 #[.int .i64 n] W fun e w' => e = .returned (.bool b) ∧ W = w' := by
  have h := number_any W n; rw [hb.out] at h; exact h
end

set_option maxRecDepth 100000 in
set_option maxHeartbeats 1000000 in
theorem put_none (w : World) (e n kind : Int) (A : Option Addr) (m c : Nat) (hm : m ≤ 140737488351232) (h : mayB kind m = false ∨ numB e = false ∨ numB n = false) :
    Calls Try.prog 27 #[.int .i64 e, .int .i64 n, .agg #[.int .i64 kind, .slice A m c]] w fun en w' => en = .returned (.slice none 0 0) ∧ Below w.heap.size w w' := by
  have HB := Lib.hid ((Below.refl w.heap.size w).alloc (Nat.le_refl _) (.cells #[.int .i64 kind, .slice A m c] 40))
  cases h1 : mayB kind m with
  | false =>
    have H1 := Lib.hid h1
    clear h h1
    go_enter Try.func27, Try.ntmps27
    go_wp2_with (go_at_call 30; (with_reducible refine (may_at HB hm H1).mono ?_); rintro en w' ⟨rfl, Hb⟩)
    go_ret
    exact ⟨rfl, Hb.out⟩
  | true =>
    have H1 := Lib.hid h1
    cases h2 : numB e with
    | false =>
      have H2 := Lib.hid h2
      clear h h1 h2
      go_enter Try.func27, Try.ntmps27
      go_wp2_with (first
        | (go_at_call 30; (with_reducible refine (may_at HB hm H1).mono ?_); rintro en w' ⟨rfl, Hb⟩)
        | (go_at_call 72; (with_reducible refine (number_at H2).mono ?_); rintro en w' ⟨rfl, rfl⟩))
      go_ret
      exact ⟨rfl, Hb.out⟩
    | true =>
      have h3 : numB n = false := by simpa [h1, h2] using h
      have H2 := Lib.hid h2
      have H3 := Lib.hid h3
      clear h h1 h2 h3
      go_enter Try.func27, Try.ntmps27
      go_wp2_with (first
        | (go_at_call 30; (with_reducible refine (may_at HB hm H1).mono ?_); rintro en w' ⟨rfl, Hb⟩)
        | (go_at_call 72; (with_reducible refine (number_at H2).mono ?_); rintro en w' ⟨rfl, rfl⟩)
        | (go_at_call 72; (with_reducible refine (number_at H3).mono ?_); rintro en w' ⟨rfl, rfl⟩))
      go_ret
      exact ⟨rfl, Hb.out⟩

set_option maxRecDepth 100000 in
set_option maxHeartbeats 2000000 in
theorem put_any (w : World) (e n k : Nat) (he : e < 4294967296) (hn : n < 4294967296) (hk1 : 1 ≤ k) (hk2 : k ≤ 255) (A : Option Addr) (c : Nat) (l : List Int) (hl : WS l) (hlen : l.length ≤ 2000) (hC : (Kd.int .u64).C w A l.length l) :
    Calls Try.prog 27 #[.int .i64 (e : Int), .int .i64 (n : Int), .agg #[.int .i64 (k : Int), .slice A l.length c]] w fun en w' => ∃ A1 c1, en = .returned (.slice A1 (l.length + 1) c1) ∧ l.length + 1 ≤ c1 ∧
      (Kd.int .u64).C w' A1 (l.length + 1) (((fmark e n k l : Nat) : Int) :: l) ∧ (Kd.int .u64).R 30 w' w.heap.size (fun _ => True) (.slice A1 (l.length + 1) c1) (((fmark e n k l : Nat) : Int) :: l) ∧ Below w.heap.size w w' := by
  have HC := Lib.hid hC
  have HL := Lib.hid hl
  have HB := Lib.hid ((Below.refl w.heap.size w).alloc (Nat.le_refl _) (.cells #[.int .i64 (k : Int), .slice A l.length c] 40))
  have H1 := Lib.hid (mayB_true.2 ⟨by omega, by omega, hlen⟩ : mayB (k : Int) l.length = true)
  have H2 := Lib.hid (numB_true.2 ⟨by omega, by omega⟩ : numB (e : Int) = true)
  have H3 := Lib.hid (numB_true.2 ⟨by omega, by omega⟩ : numB (n : Int) = true)
  have Hmk : Hid (∀ W, Hid (Below w.heap.size w W) → Calls Try.prog 73 #[.int .i64 (e : Int), .int .i64 (n : Int), .int .i64 (k : Int), .slice A l.length c] W fun en w' => en = .returned (.int .u64 ((fmark e n k l : Nat) : Int)) ∧ Hid (Below W.heap.size W w')) :=
    fun W hW => (mark_call W e n k he hn (by omega) A c l HL.out hlen (Kd.C_below HC.out hW.out)).mono fun en w' ⟨h1, h2⟩ => ⟨h1, h2⟩
  obtain ⟨f, hf⟩ : ∃ f, f = fmark e n k l := ⟨_, rfl⟩
  rw [← hf] at Hmk ⊢
  clear hC hl hf
  go_enter Try.func27, Try.ntmps27
  go_wp2_with (first
    | (go_at_call 30; (with_reducible refine (may_any _ _ _ _ _ (by omega)).mono ?_); rw [H1.out]; rintro en w' ⟨rfl, hb⟩; have Hb := Lib.hid hb; clear hb)
    | (go_at_call 72; (with_reducible refine (number_at H2).mono ?_); rintro en w' ⟨rfl, rfl⟩)
    | (go_at_call 72; (with_reducible refine (number_at H3).mono ?_); rintro en w' ⟨rfl, rfl⟩))
  have hn0 : (w.alloc (.cells #[.int .i64 (k : Int), .slice A l.length c] 40)).cell? ⟨w.heap.size, 0, none⟩ = some (.int .i64 (k : Int)) := by simp [go_sem]
  have hn1 : (w.alloc (.cells #[.int .i64 (k : Int), .slice A l.length c] 40)).cell? ⟨w.heap.size, 1, none⟩ = some (.slice A l.length c) := by simp [go_sem]
  have hs0 : w.heap.size < (w.alloc (.cells #[.int .i64 (k : Int), .slice A l.length c] 40)).heap.size := by simp
  have HC1 := Lib.hid (Kd.C_below HC.out HB.out)
  have hk0 : w'.cell? ⟨w.heap.size, 0, none⟩ = some (.int .i64 (k : Int)) := by
    rw [Hb.out.cell (p := ⟨w.heap.size, 0, none⟩) (by simp)]; simp [go_sem]
  have hk3 : w'.cell? ⟨w.heap.size, 1, none⟩ = some (.slice A l.length c) := by
    rw [Hb.out.cell (p := ⟨w.heap.size, 1, none⟩) (by simp)]; simp [go_sem]
  have Hb0 := Lib.hid (HB.out.trans (Hb.out.mono (by simp)))
  have hsz : w.heap.size < w'.heap.size := by have := Hb.out.size; simp at this; omega
  go_region_held3 (fun w' => w'.cell? ⟨w.heap.size, 0, none⟩ = some (.int .i64 (k : Int)) ∧ w'.cell? ⟨w.heap.size, 1, none⟩ = some (.slice A l.length c))
    (first | go_keep)
    (first
      | (go_at_call 73; refine (Hmk.out _ (Lib.hid Hb0.out.drew)).mono ?_; rintro en w2 ⟨rfl, Hb2⟩; have q0 : w2.cell? ⟨w.heap.size, 0, none⟩ = some (.int .i64 (k : Int)) := (Hb2.out.cell (p := ⟨w.heap.size, 0, none⟩) hsz).trans hk0; have q1 : w2.cell? ⟨w.heap.size, 1, none⟩ = some (.slice A l.length c) := (Hb2.out.cell (p := ⟨w.heap.size, 1, none⟩) hsz).trans hk3; have hsz2 : w.heap.size < w2.heap.size := Nat.lt_of_lt_of_le hsz Hb2.out.size)
      | (refine app_lit_ints_step (w0 := w.alloc (.cells #[.int .i64 (k : Int), .slice A l.length c] 40)) .u64 23 30 8 Try.underlying23 infoU64 (by omega) (by rfl) _ _ (by rfl) [(f : Int)] l ((f : Int) :: l) A l.length c (l.length + 1) 1 _ (by rfl) (by rfl) (by rfl) (by rfl) HC1 (Lib.hid (Hb.out.drew.trans (Hb2.out.mono Hb.out.size))) (by rfl) (by rfl) (by omega) ?_; intro A1 c1 w1 hl1 HC2 HR1 Hb4; have q2 : w1.cell? ⟨w.heap.size, 0, none⟩ = some (.int .i64 (k : Int)) := (Hb4.out.cell (p := ⟨w.heap.size, 0, none⟩) hs0).trans hn0; have q3 : w1.cell? ⟨w.heap.size, 1, none⟩ = some (.slice A l.length c) := (Hb4.out.cell (p := ⟨w.heap.size, 1, none⟩) hs0).trans hn1))
  go_wp2
  go_ret
  exact ⟨A1, c1, rfl, hl1, HC2.out, Kd.R_lower HR1.out (by simp), HB.out.trans (Hb4.out.mono (by simp))⟩
end Go.Proofs.Ytmeoiennniknlaa.Frames
