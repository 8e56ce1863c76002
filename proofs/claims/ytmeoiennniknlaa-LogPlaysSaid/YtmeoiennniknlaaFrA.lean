/- Frames: their words, marks; the plain law: what is put is told; the small contracts of package frames. The contract of frames.Put. The contract of frames.Get. The contract of frames.Get. -/
import Derived.Test.YtmeoiennniknlaaSumsB
import Derived.Deep.RegionHeld3
import Derived.Test.YtmeoiennniknlaaLib0
namespace Go.Proofs.Ytmeoiennniknlaa.Frames
open Go.RowKit Go.Shelf Go.Proofs.YtmeoiennniknlaaW.PrintWords Go.Proofs.Ytmeoiennniknlaa.Lb Go.Proofs.Ytmeoiennniknlaa.Sums
set_option linter.unusedVariables false
set_option linter.unusedSimpArgs false

abbrev Fr := PFramesGet.S40
abbrev kF : Kd Fr := PFramesGet.k40
def mayB (kind : Int) (n : Nat) : Bool := decide (1 ≤ kind) && (decide (kind ≤ 255) && decide (n ≤ 2000))
def numB (n : Int) : Bool := decide (0 ≤ n) && decide (n ≤ 4294967295)
theorem mayB_true {kind : Int} {n : Nat} : mayB kind n = true ↔ 1 ≤ kind ∧ kind ≤ 255 ∧ n ≤ 2000 := by simp [mayB]
theorem numB_true {n : Int} : numB n = true ↔ 0 ≤ n ∧ n ≤ 4294967295 := by simp [numB]
/-- Words. -/
def WS (l : List Int) : Prop := ∀ x ∈ l, 0 ≤ x ∧ x < 18446744073709551616
theorem WS.il {l : List Int} (h : WS l) : il (l.map Int.toNat) = l := il_of l (fun x hx => (h x hx).1)
theorem WS.nat {l : List Int} (h : WS l) : ∀ x ∈ l.map Int.toNat, x < 18446744073709551616 := by
  intro x hx
  obtain ⟨y, hy, rfl⟩ := List.mem_map.1 hx
  have := h y hy
  omega
/-- The mark of a frame's words. -/
def fmark (e n kind : Nat) (l : List Int) : Nat := Sums.mark kind l.length (e :: n :: l.map Int.toNat)

set_option maxRecDepth 100000 in
set_option maxHeartbeats 400000 in
theorem may_any (w : World) (kind : Int) (A : Option Addr) (n c : Nat) (hn : n ≤ 140737488351232) :
    Calls Try.prog 30 #[.agg #[.int .i64 kind, .slice A n c]] w fun e w' => e = .returned (.bool (mayB kind n)) ∧ Below w.heap.size w w' := by
  unfold mayB
  by_cases h1 : 1 ≤ kind
  · by_cases h2 : kind ≤ 255
    · by_cases h3 : n ≤ 2000
      all_goals
        go_enter Try.func30, Try.ntmps30
        go_wp2
        go_ret
        exact ⟨by simp [h1, h2]; omega, (Below.refl _ w).alloc (Nat.le_refl _) _⟩
    · go_enter Try.func30, Try.ntmps30
      go_wp2
      go_ret
      exact ⟨by simp [h1]; omega, (Below.refl _ w).alloc (Nat.le_refl _) _⟩
  · go_enter Try.func30, Try.ntmps30
    go_wp2
    go_ret
    exact ⟨by simp; omega, (Below.refl _ w).alloc (Nat.le_refl _) _⟩

set_option maxRecDepth 100000 in
set_option maxHeartbeats 400000 in
theorem number_any (w : World) (n : Int) :
    Calls Try.prog 72 #[.int .i64 n] w fun e w' => e = .returned (.bool (numB n)) ∧ w = w' := by
  unfold numB
  by_cases h1 : 0 ≤ n
  · by_cases h2 : n ≤ 4294967295
    all_goals
      go_enter Try.func72, Try.ntmps72
      go_wp2
      go_ret
      exact ⟨by simp; omega, rfl⟩
  · go_enter Try.func72, Try.ntmps72
    go_wp2
    go_ret
    exact ⟨by simp; omega, rfl⟩

set_option maxRecDepth 100000 in
set_option maxHeartbeats 400000 in
theorem mark_call (w : World) (e n k : Nat) (he : e < 4294967296) (hn : n < 4294967296) (hk : k < 256) (A : Option Addr) (c : Nat) (l : List Int) (hl : WS l) (hlen : l.length ≤ 2000) (hC : (Kd.int .u64).C w A l.length l) :
    Calls Try.prog 73 #[.int .i64 (e : Int), .int .i64 (n : Int), .int .i64 (k : Int), .slice A l.length c] w fun en w' => en = .returned (.int .u64 ((fmark e n k l : Nat) : Int)) ∧ Below w.heap.size w w' := by
  have HC := Lib.hid hC
  have HL := Lib.hid hl
  have HB := Lib.hid (Below.refl w.heap.size w)
  have Hf : Hid (fmark e n k l = Sums.mark k l.length (e :: n :: l.map Int.toNat)) := rfl
  obtain ⟨f, hf⟩ : ∃ f, f = fmark e n k l := ⟨_, rfl⟩
  rw [← hf] at Hf ⊢
  have Hl2 := Lib.hid (show (l.map Int.toNat).length = l.length from List.length_map _)
  clear hC hl hf
  go_enter Try.func73, Try.ntmps73
  go_wp2_with (first
    | (at_builtin; refine app_lit_ints (w0 := w) .u64 23 30 8 Try.underlying23 infoU64 (by omega) rfl _ _ rfl [(e : Int), (n : Int)] l (il (e :: n :: l.map Int.toNat)) A l.length c (l.length + 1 + 1) 2 _ rfl rfl rfl rfl HC (by assumption) (by rw [il_cons, il_cons, HL.out.il]; rfl) (by simp [il]) (by omega) ?_; intro A1 c1 w1 hl1 HC1 HR1 Hb)
    | (go_at_call 21; (with_reducible refine (mark_at (w := w1) (ws := e :: n :: l.map Int.toNat) (Lib.hid (Below.refl _ _)) ?_ ?_ ?_ ?_ ?_).mono ?_); rotate_right; rintro en w' ⟨rfl, Hb2⟩))
  case refine_1 => rw [List.length_cons, List.length_cons, Hl2.out]; exact HC1
  case refine_2 => rw [List.length_cons, List.length_cons, Hl2.out]
  case refine_3 => exact hk
  case refine_4 => omega
  case refine_5 => rw [List.length_cons, List.length_cons, Hl2.out]; omega
  · rw [← Hf.out]
    go_ret
    exact ⟨rfl, Hb.out.trans (Hb2.out.mono Hb.out.size)⟩

/-! slices.Clone of words -/
set_option maxRecDepth 100000 in
set_option maxHeartbeats 400000 in
theorem clone_any (w : World) (A : Option Addr) (c : Nat) (l : List Int) (hlen : l.length * 8 ≤ 140737488355328) (hC : (Kd.int .u64).C w A l.length l) (hnil : A = none → c = 0) :
    Calls Try.prog 74 #[.slice A l.length c] w fun en w' => ∃ A1 c1, en = .returned (.slice A1 l.length c1) ∧ l.length ≤ c1 ∧ (Kd.int .u64).C w' A1 l.length l ∧ (Kd.int .u64).R 30 w' w.heap.size (fun _ => True) (.slice A1 l.length c1) l ∧ Below w.heap.size w w' := by
  have HC := Lib.hid hC
  have HB := Lib.hid (Below.refl w.heap.size w)
  cases A with
  | none =>
    have hl : l.length = 0 := by
      rcases Nat.eq_zero_or_pos l.length with h | h
      · exact h
      · obtain ⟨ad, e, _⟩ := hC.2.2 h
        cases e
    obtain rfl : l = [] := List.eq_nil_of_length_eq_zero hl
    obtain rfl := hnil rfl
    clear hC hl
    have e1 := fun w a l c n' c' => Lib.run_eql_slice_nil (P := Try.prog) w 23 30 a l c n' c' Try.underlying23
    go_enter Try.func74, Try.ntmps74
    go_wp2
    go_ret
    exact ⟨none, 0, rfl, Kd.C_nil _ _, Kd.R_nil _ _ _ _ _, Below.refl _ _⟩
  | some ad =>
    clear hC
    have e1 := fun w a l c n' c' => Lib.run_eql_slice_nil (P := Try.prog) w 23 30 a l c n' c' Try.underlying23
    go_enter Try.func74, Try.ntmps74
    go_wp2_with (at_builtin; refine app_lit_ints (w0 := w) .u64 23 30 8 Try.underlying23 infoU64 (by omega) rfl _ _ rfl [] l l (some ad) l.length c l.length 0 _ rfl rfl rfl rfl HC (by assumption) rfl rfl (by omega) ?_; intro A1 c1 w1 hl1 HC1 HR1 Hb)
    go_ret
    exact ⟨A1, c1, rfl, hl1, HC1.out, HR1.out, Hb.out⟩
end Go.Proofs.Ytmeoiennniknlaa.Frames

namespace Go.Proofs.Ytmeoiennniknlaa.Frames
open Go.RowKit Go.Shelf Go.Proofs.YtmeoiennniknlaaW.PrintWords Go.Proofs.Ytmeoiennniknlaa.Lb Go.Proofs.Ytmeoiennniknlaa.Sums
set_option linter.unusedVariables false
set_option linter.unusedSimpArgs false

section
variable {w W : World}
theorem may_at {kind : Int} {A : Option Addr} {n c : Nat} {b : Bool} (hB : Hid (Below w.heap.size w W)) (hn : n ≤ 140737488351232) (hb : Hid (mayB kind n = b)) :
    Calls Try.prog 30 #[.agg #[.int .i64 kind, .slice A n c]] W fun e w' => e = .returned (.bool b) ∧ Hid (Below w.heap.size w w') := by
  have h := hB_at hB (may_any W kind A n c hn); rw [hb.out] at h; exact h
theorem number_at {n : Int} {b : Bool} (hb : Hid (numB n = b)) :
    Calls Try.prog 72 #[.int .i64 n] W fun e w' => e = .returned (.bool b) ∧ W = w' := by
  have h := number_any W n; rw [hb.out] at h; exact h
end

set_option maxRecDepth 100000 in
set_option maxHeartbeats 1000000 in
theorem put_none (w : World) (e n kind : Int) (A : Option Addr) (m c : Nat) (hm : m ≤ 140737488351232) (h : mayB kind m = false ∨ numB e = false ∨ numB n = false) :
    Calls Try.prog 27 #[.int .i64 e, .int .i64 n, .agg #[.int .i64 kind, .slice A m c]] w fun en w' => en = .returned (.slice none 0 0) ∧ Below w.heap.size w w' := by
  have HB := Lib.hid ((Below.refl w.heap.size w).alloc (Nat.le_refl _) (.cells #[.int .i64 kind, .slice A m c] 40))
  cases h1 : mayB kind m with
  | false =>
    have H1 := Lib.hid h1
    clear h h1
    go_enter Try.func27, Try.ntmps27
    go_wp2_with (go_at_call 30; (with_reducible refine (may_at HB hm H1).mono ?_); rintro en w' ⟨rfl, Hb⟩)
    go_ret
    exact ⟨rfl, Hb.out⟩
  | true =>
    have H1 := Lib.hid h1
    cases h2 : numB e with
    | false =>
      have H2 := Lib.hid h2
      clear h h1 h2
      go_enter Try.func27, Try.ntmps27
      go_wp2_with (first
        | (go_at_call 30; (with_reducible refine (may_at HB hm H1).mono ?_); rintro en w' ⟨rfl, Hb⟩)
        | (go_at_call 72; (with_reducible refine (number_at H2).mono ?_); rintro en w' ⟨rfl, rfl⟩))
      go_ret
      exact ⟨rfl, Hb.out⟩
    | true =>
      have h3 : numB n = false := by simpa [h1, h2] using h
      have H2 := Lib.hid h2
      have H3 := Lib.hid h3
      clear h h1 h2 h3
      go_enter Try.func27, Try.ntmps27
      go_wp2_with (first
        | (go_at_call 30; (with_reducible refine (may_at HB hm H1).mono ?_); rintro en w' ⟨rfl, Hb⟩)
        | (go_at_call 72; (with_reducible refine (number_at H2).mono ?_); rintro en w' ⟨rfl, rfl⟩)
        | (go_at_call 72; (with_reducible refine (number_at H3).mono ?_); rintro en w' ⟨rfl, rfl⟩))
      go_ret
      exact ⟨rfl, Hb.out⟩

set_option maxRecDepth 100000 in
set_option maxHeartbeats 2000000 in
theorem put_any (w : World) (e n k : Nat) (he : e < 4294967296) (hn : n < 4294967296) (hk1 : 1 ≤ k) (hk2 : k ≤ 255) (A : Option Addr) (c : Nat) (l : List Int) (hl : WS l) (hlen : l.length ≤ 2000) (hC : (Kd.int .u64).C w A l.length l) :
    Calls Try.prog 27 #[.int .i64 (e : Int), .int .i64 (n : Int), .agg #[.int .i64 (k : Int), .slice A l.length c]] w fun en w' => ∃ A1 c1, en = .returned (.slice A1 (l.length + 1) c1) ∧ l.length + 1 ≤ c1 ∧
      (Kd.int .u64).C w' A1 (l.length + 1) (((fmark e n k l : Nat) : Int) :: l) ∧ (Kd.int .u64).R 30 w' w.heap.size (fun _ => True) (.slice A1 (l.length + 1) c1) (((fmark e n k l : Nat) : Int) :: l) ∧ Below w.heap.size w w' := by
  have HC := Lib.hid hC
  have HL := Lib.hid hl
  have HB := Lib.hid ((Below.refl w.heap.size w).alloc (Nat.le_refl _) (.cells #[.int .i64 (k : Int), .slice A l.length c] 40))
  have H1 := Lib.hid (mayB_true.2 ⟨by omega, by omega, hlen⟩ : mayB (k : Int) l.length = true)
  have H2 := Lib.hid (numB_true.2 ⟨by omega, by omega⟩ : numB (e : Int) = true)
  have H3 := Lib.hid (numB_true.2 ⟨by omega, by omega⟩ : numB (n : Int) = true)
  have Hmk : Hid (∀ W, Hid (Below w.heap.size w W) → Calls Try.prog 73 #[.int .i64 (e : Int), .int .i64 (n : Int), .int .i64 (k : Int), .slice A l.length c] W fun en w' => en = .returned (.int .u64 ((fmark e n k l : Nat) : Int)) ∧ Hid (Below W.heap.size W w')) :=
    fun W hW => (mark_call W e n k he hn (by omega) A c l HL.out hlen (Kd.C_below HC.out hW.out)).mono fun en w' ⟨h1, h2⟩ => ⟨h1, h2⟩
  obtain ⟨f, hf⟩ : ∃ f, f = fmark e n k l := ⟨_, rfl⟩
  rw [← hf] at Hmk ⊢
  clear hC hl hf
  go_enter Try.func27, Try.ntmps27
  go_wp2_with (first
    | (go_at_call 30; (with_reducible refine (may_any _ _ _ _ _ (by omega)).mono ?_); rw [H1.out]; rintro en w' ⟨rfl, hb⟩; have Hb := Lib.hid hb; clear hb)
    | (go_at_call 72; (with_reducible refine (number_at H2).mono ?_); rintro en w' ⟨rfl, rfl⟩)
    | (go_at_call 72; (with_reducible refine (number_at H3).mono ?_); rintro en w' ⟨rfl, rfl⟩))
  have hn0 : (w.alloc (.cells #[.int .i64 (k : Int), .slice A l.length c] 40)).cell? ⟨w.heap.size, 0, none⟩ = some (.int .i64 (k : Int)) := by simp [go_sem]
  have hn1 : (w.alloc (.cells #[.int .i64 (k : Int), .slice A l.length c] 40)).cell? ⟨w.heap.size, 1, none⟩ = some (.slice A l.length c) := by simp [go_sem]
  have hs0 : w.heap.size < (w.alloc (.cells #[.int .i64 (k : Int), .slice A l.length c] 40)).heap.size := by simp
  have HC1 := Lib.hid (Kd.C_below HC.out HB.out)
  have hk0 : w'.cell? ⟨w.heap.size, 0, none⟩ = some (.int .i64 (k : Int)) := by
    rw [Hb.out.cell (p := ⟨w.heap.size, 0, none⟩) (by simp)]; simp [go_sem]
  have hk3 : w'.cell? ⟨w.heap.size, 1, none⟩ = some (.slice A l.length c) := by
    rw [Hb.out.cell (p := ⟨w.heap.size, 1, none⟩) (by simp)]; simp [go_sem]
  have Hb0 := Lib.hid (HB.out.trans (Hb.out.mono (by simp)))
  have hsz : w.heap.size < w'.heap.size := by have := Hb.out.size; simp at this; omega
  go_region_held3 (fun w' => w'.cell? ⟨w.heap.size, 0, none⟩ = some (.int .i64 (k : Int)) ∧ w'.cell? ⟨w.heap.size, 1, none⟩ = some (.slice A l.length c))
    (first | go_keep)
    (first
      | (go_at_call 73; refine (Hmk.out _ (Lib.hid Hb0.out.drew)).mono ?_; rintro en w2 ⟨rfl, Hb2⟩; have q0 : w2.cell? ⟨w.heap.size, 0, none⟩ = some (.int .i64 (k : Int)) := (Hb2.out.cell (p := ⟨w.heap.size, 0, none⟩) hsz).trans hk0; have q1 : w2.cell? ⟨w.heap.size, 1, none⟩ = some (.slice A l.length c) := (Hb2.out.cell (p := ⟨w.heap.size, 1, none⟩) hsz).trans hk3; have hsz2 : w.heap.size < w2.heap.size := Nat.lt_of_lt_of_le hsz Hb2.out.size)
      | (refine app_lit_ints_step (w0 := w.alloc (.cells #[.int .i64 (k : Int), .slice A l.length c] 40)) .u64 23 30 8 Try.underlying23 infoU64 (by omega) (by rfl) _ _ (by rfl) [(f : Int)] l ((f : Int) :: l) A l.length c (l.length + 1) 1 _ (by rfl) (by rfl) (by rfl) (by rfl) HC1 (Lib.hid (Hb.out.drew.trans (Hb2.out.mono Hb.out.size))) (by rfl) (by rfl) (by omega) ?_; intro A1 c1 w1 hl1 HC2 HR1 Hb4; have q2 : w1.cell? ⟨w.heap.size, 0, none⟩ = some (.int .i64 (k : Int)) := (Hb4.out.cell (p := ⟨w.heap.size, 0, none⟩) hs0).trans hn0; have q3 : w1.cell? ⟨w.heap.size, 1, none⟩ = some (.slice A l.length c) := (Hb4.out.cell (p := ⟨w.heap.size, 1, none⟩) hs0).trans hn1))
  go_wp2
  go_ret
  exact ⟨A1, c1, rfl, hl1, HC2.out, Kd.R_lower HR1.out (by simp), HB.out.trans (Hb4.out.mono (by simp))⟩
end Go.Proofs.Ytmeoiennniknlaa.Frames

namespace Go.Proofs.Ytmeoiennniknlaa.Frames
open Go.RowKit Go.Shelf Go.Proofs.YtmeoiennniknlaaW.PrintWords Go.Proofs.Ytmeoiennniknlaa.Lb Go.Proofs.Ytmeoiennniknlaa.Sums
set_option linter.unusedVariables false
set_option linter.unusedSimpArgs false

/-- What a frame at the beginning of words is. -/
def getR (e n : Int) (l : List Int) : Option (Fr × Nat) :=
  if l.length = 0 ∨ numB e = false ∨ numB n = false then none else
  let x := (l.getD 0 0).toNat
  let k := x / 72057594037927936
  let m := x / 4294967296 % 16777216
  let ws := (l.take (1 + m)).drop 1
  if l.length < 1 + m ∨ mayB (k : Int) m = false ∨ fmark e.toNat n.toNat k ws ≠ x then none else some (⟨k, ws⟩, 1 + m)

theorem open_same {W : World} {x K M S : Nat} (hx : x < 18446744073709551616) (hK : Hid (x / 72057594037927936 = K)) (hM : Hid (x / 4294967296 % 16777216 = M)) (hS : Hid (x % 4294967296 = S)) :
    Calls Try.prog 23 #[.int .u64 (x : Int)] W fun e w' => e = .returned (.tuple #[.int .i64 (K : Int), .int .i64 (M : Int), .int .u32 (S : Int)]) ∧ W = w' :=
  (open_any W x hx).mono fun e w' ⟨he, hw⟩ => ⟨by rw [he, hK.out, hM.out, hS.out], hw⟩

/-- No frame, said at once. -/
def NoFr (w : World) (e : Ending) (w' : World) : Prop := e = .returned (.tuple #[.agg #[.int .i64 0, .slice none 0 0], .int .i64 0, .bool false]) ∧ Below w.heap.size w w'

set_option maxRecDepth 100000 in
set_option maxHeartbeats 1000000 in
theorem get_no1 (w : World) (e n : Int) (A : Option Addr) (m c : Nat) (hm : m ≤ 140737488351232) (h : m = 0 ∨ numB e = false ∨ numB n = false) :
    Calls Try.prog 31 #[.int .i64 e, .int .i64 n, .slice A m c] w (NoFr w) := by
  have hb : Hid (Below w.heap.size w (w.alloc (.cells #[.int .i64 0, .slice none 0 0] 40))) := Lib.hid ((Below.refl _ w).alloc (Nat.le_refl _) _)
  by_cases h1 : m = 0
  · subst h1
    clear h
    go_enter Try.func31, Try.ntmps31
    go_wp2
    exact bodyPost_ret (v := .tuple #[.agg #[.int .i64 0, .slice none 0 0], .int .i64 0, .bool false]) (by simp [results, Try.results31, go_sem]) rfl ⟨rfl, hb.out⟩
  · have h1b : ((m : Int) == 0) = false := by simp; exact h1
    cases h2 : numB e with
    | false =>
      have H2 := Lib.hid h2
      clear h h2
      go_enter Try.func31, Try.ntmps31
      go_wp2_with (go_at_call 72; (with_reducible refine (number_at H2).mono ?_); rintro en w' ⟨rfl, rfl⟩)
      exact bodyPost_ret (v := .tuple #[.agg #[.int .i64 0, .slice none 0 0], .int .i64 0, .bool false]) (by simp [results, Try.results31, go_sem]) rfl ⟨rfl, hb.out⟩
    | true =>
      have h3 : numB n = false := by simpa [h1, h2] using h
      have H2 := Lib.hid h2
      have H3 := Lib.hid h3
      clear h h2 h3
      go_enter Try.func31, Try.ntmps31
      go_wp2_with (first
        | (go_at_call 72; (with_reducible refine (number_at H2).mono ?_); rintro en w' ⟨rfl, rfl⟩)
        | (go_at_call 72; (with_reducible refine (number_at H3).mono ?_); rintro en w' ⟨rfl, rfl⟩))
      exact bodyPost_ret (v := .tuple #[.agg #[.int .i64 0, .slice none 0 0], .int .i64 0, .bool false]) (by simp [results, Try.results31, go_sem]) rfl ⟨rfl, hb.out⟩

set_option maxRecDepth 100000 in
set_option maxHeartbeats 1000000 in
theorem get_no2 (w : World) (e n : Int) (he : numB e = true) (hn : numB n = true) (ad : Addr) (c : Nat) (x K M : Nat) (l : List Int) (hl0 : 0 < l.length) (hm : l.length * 8 ≤ 140737488351232) (hx : x < 18446744073709551616) (hK : x / 72057594037927936 = K) (hM : x / 4294967296 % 16777216 = M) (hcell : w.cell? ad = some (.int .u64 (x : Int))) (h : l.length < 1 + M) :
    Calls Try.prog 31 #[.int .i64 e, .int .i64 n, .slice (some ad) l.length c] w (NoFr w) := by
  have hb : Hid (Below w.heap.size w (w.alloc (.cells #[.int .i64 0, .slice none 0 0] 40))) := Lib.hid ((Below.refl _ w).alloc (Nat.le_refl _) _)
  have hML : M < 16777216 := by omega
  have H2 := Lib.hid he
  have H3 := Lib.hid hn
  have HK := Lib.hid hK
  have HM := Lib.hid hM
  obtain ⟨S, hS⟩ : ∃ S, x % 4294967296 = S := ⟨_, rfl⟩
  have HS := Lib.hid hS
  have h1b : ((l.length : Int) == 0) = false := by
    simp
    intro e
    rw [e] at hl0
    simp at hl0
  have hne : l ≠ [] := by intro e; rw [e] at hl0; simp at hl0
  have hlt := World.block_lt_of_cell? w _ hcell
  have hcell2 : (w.alloc (.cells #[.int .i64 0, .slice none 0 0] 40)).cell? ad = some (.int .u64 (x : Int)) := by rw [World.cell?_alloc_lt _ _ _ hlt]; exact hcell
  clear he hn hK hM hS
  go_enter Try.func31, Try.ntmps31
  go_wp2_with (first
    | (go_at_call 72; (with_reducible refine (number_at H2).mono ?_); rintro en w' ⟨rfl, rfl⟩)
    | (go_at_call 72; (with_reducible refine (number_at H3).mono ?_); rintro en w' ⟨rfl, rfl⟩)
    | (go_at_call 23; (with_reducible refine (open_same hx HK HM HS).mono ?_); rintro en w' ⟨rfl, rfl⟩))
  exact bodyPost_ret (v := .tuple #[.agg #[.int .i64 0, .slice none 0 0], .int .i64 0, .bool false]) (by simp [results, Try.results31, go_sem]) rfl ⟨rfl, hb.out⟩

/-- The frame told. -/
def YesFr (w : World) (k m : Nat) (ws : List Int) (e : Ending) (w' : World) : Prop :=
  ∃ A1 c1, e = .returned (.tuple #[.agg #[.int .i64 (k : Int), .slice A1 ws.length c1], .int .i64 ((1 + m : Nat) : Int), .bool true]) ∧ ws.length ≤ c1 ∧
    (Kd.int .u64).C w' A1 ws.length ws ∧ (Kd.int .u64).R 30 w' w.heap.size (fun _ => True) (.slice A1 ws.length c1) ws ∧ Below w.heap.size w w'

theorem R_past {α : Type} {d : Kd α} {e b : Nat} {ok : Nat → Prop} {v : Value} {xs : List α} {w : World} (h : d.R e w (b + 1) ok v xs) (i : Nat) (u : Value) :
    d.R e (w.setCell ⟨b, i, none⟩ u) (b + 1) (fun _ => True) v xs :=
  Kd.R_mono (Kd.R_far (p := ⟨b, i, none⟩) (Kd.R_bound h) (fun k hk => by have := hk.2.1; show k ≠ b; omega) u) (fun _ _ => trivial)

theorem info_u64 : ∃ i, Try.prog.info? 30 = some i ∧ i.size = 1 := by
  obtain ⟨i, hi, h⟩ := Option.map_eq_some_iff.1 infoU64
  simp only [Prod.mk.injEq] at h
  exact ⟨i, hi, h.2.1⟩

set_option maxRecDepth 100000 in
set_option maxHeartbeats 4000000 in
theorem get_main (w : World) (e n : Nat) (he : e < 4294967296) (hn : n < 4294967296) (ad : Addr) (c : Nat) (x K M : Nat) (l ws : List Int) (hl : WS l) (hcap : l.length ≤ c) (hm : l.length * 8 ≤ 140737488351232) (hx : x < 18446744073709551616) (hK : x / 72057594037927936 = K) (hM : x / 4294967296 % 16777216 = M) (hcell : w.cell? ad = some (.int .u64 (x : Int)))
    (hC : (Kd.int .u64).C w (some ad) l.length l) (hfit : 1 + M ≤ l.length) (hws : ws = (l.take (1 + M)).drop 1) (b1 b2 : Bool) (hb1 : mayB (K : Int) M = b1) (hb2 : b1 = true → (((fmark e n K ws : Nat) : Int) != (x : Int)) = b2) :
    Calls Try.prog 31 #[.int .i64 (e : Int), .int .i64 (n : Int), .slice (some ad) l.length c] w (fun en w' => (b1 = true ∧ b2 = false → YesFr w K M ws en w') ∧ (¬(b1 = true ∧ b2 = false) → NoFr w en w')) := by
  have hML : M < 16777216 := by omega
  have hKL : K < 256 := by omega
  have H2 := Lib.hid (numB_true.2 ⟨by omega, by omega⟩ : numB (e : Int) = true)
  have H3 := Lib.hid (numB_true.2 ⟨by omega, by omega⟩ : numB (n : Int) = true)
  have HK := Lib.hid hK
  have HM := Lib.hid hM
  have HC := Lib.hid hC
  obtain ⟨S, hS⟩ : ∃ S, x % 4294967296 = S := ⟨_, rfl⟩
  have HS := Lib.hid hS
  have hl0 : 0 < l.length := by omega
  have h1b : ((l.length : Int) == 0) = false := by
    simp
    intro e
    rw [e] at hl0
    simp at hl0
  have hne : l ≠ [] := by intro e; rw [e] at hl0; simp at hl0
  obtain ⟨i0, hi0, hsz0⟩ := info_u64
  obtain ⟨ad2, hrun, hmid⟩ := mid_ints (P := Try.prog) 23 30 .u64 Try.underlying23 hi0 hsz0 ad c l 1 (1 + M) (by omega) hfit hcap
  have hwsl : ws.length = 1 + M - 1 := by rw [hws, List.length_drop, List.length_take]; omega
  have hrun' : ∀ W : World, (Instr.slice 23 (.slice (some ad) l.length c) (some (.int .i64 1)) (some (.int .i64 (1 + (M : Int)))) none).run Try.prog W = .ok (.slice (some ad2) ws.length (c - 1)) W := by
    intro W
    have h := hrun W
    rw [show ((1 + M : Nat) : Int) = 1 + (M : Int) by omega, ← hwsl] at h
    exact h
  have HMid : Hid (∀ w : World, (Kd.int .u64).C w (some ad) l.length l → (Kd.int .u64).C w (some ad2) ws.length ws) := by
    intro w h
    have h2 := hmid w h
    rw [← hwsl, ← hws] at h2
    exact h2
  have hwsl' : ws.length = M := by omega
  have HWS : Hid (WS ws) := by
    intro y hy
    rw [hws] at hy
    exact hl y (List.mem_of_mem_take (List.mem_of_mem_drop hy))
  have Hb1 := Lib.hid hb1
  have Hb2 := Lib.hid hb2
  have Hwsl := Lib.hid hwsl'
  have HB := Lib.hid ((Below.refl w.heap.size w).alloc (Nat.le_refl _) (.cells #[.int .i64 0, .slice none 0 0] 40))
  have hlt := World.block_lt_of_cell? w _ hcell
  have hcell2 : (w.alloc (.cells #[.int .i64 0, .slice none 0 0] 40)).cell? ad = some (.int .u64 (x : Int)) := by rw [World.cell?_alloc_lt _ _ _ hlt]; exact hcell
  clear hK hM hS hl hC hrun hmid hwsl hws hwsl' hb1 hb2 hi0 hsz0
  go_enter Try.func31, Try.ntmps31
  go_wp2_with (first
    | (go_at_call 72; (with_reducible refine (number_at H2).mono ?_); rintro en w' ⟨rfl, rfl⟩)
    | (go_at_call 72; (with_reducible refine (number_at H3).mono ?_); rintro en w' ⟨rfl, rfl⟩)
    | (go_at_call 23; (with_reducible refine (open_same hx HK HM HS).mono ?_); rintro en w' ⟨rfl, rfl⟩)
    | (go_at_call 74; (with_reducible refine (clone_any _ _ _ _ ?_ (Kd.C_below (HMid.out _ HC.out) HB.out) (fun e => by cases e)).mono ?_); rotate_right; rintro en w1 ⟨A1, c1, rfl, hl1, hC1, hR1, hb⟩; have Hb := Lib.hid hb; have HC1 := Lib.hid hC1; have HR1 := Lib.hid hR1; clear hb hC1 hR1))
  case refine_1 => have := Hwsl.out; omega
  obtain ⟨W2, hW2⟩ : ∃ W2, W2 = w1.alloc (.cells #[.int .i64 (K : Int), .slice A1 ws.length c1] 40) := ⟨_, rfl⟩
  have q0 : W2.cell? ⟨w1.heap.size, 0, none⟩ = some (.int .i64 (K : Int)) := by rw [hW2]; simp [go_sem]
  have q1 : W2.cell? ⟨w1.heap.size, 1, none⟩ = some (.slice A1 ws.length c1) := by rw [hW2]; simp [go_sem]
  have hsz1 : w.heap.size < w1.heap.size := by have := Hb.out.size; simp at this; omega
  have hsz2 : w1.heap.size < W2.heap.size := by rw [hW2]; simp
  have HB2 : Hid (Below (w.heap.size + 1) (w.alloc (.cells #[.int .i64 0, .slice none 0 0] 40)) W2) := by
    rw [hW2]; exact Lib.hid ((by simpa using Hb.out : Below (w.heap.size + 1) _ w1).alloc (by omega) _)
  have q2 : W2.cell? ad = some (.int .u64 (x : Int)) := (HB2.out.cell (by omega)).trans hcell2
  have z0 : W2.cell? ⟨w.heap.size, 0, none⟩ = some (.int .i64 0) := (HB2.out.cell (p := ⟨w.heap.size, 0, none⟩) (by simp)).trans (by simp [go_sem])
  have z1 : W2.cell? ⟨w.heap.size, 1, none⟩ = some (.slice none 0 0) := (HB2.out.cell (p := ⟨w.heap.size, 1, none⟩) (by simp)).trans (by simp [go_sem])
  have f0 : W2.frozen? ⟨w.heap.size, 0, none⟩ = false := (HB2.out.frozen (p := ⟨w.heap.size, 0, none⟩) (by simp)).trans (by simp [go_sem])
  have f1 : W2.frozen? ⟨w.heap.size, 1, none⟩ = false := (HB2.out.frozen (p := ⟨w.heap.size, 1, none⟩) (by simp)).trans (by simp [go_sem])
  have HB3 : Hid (Below w.heap.size w W2) := Lib.hid (HB.out.trans (HB2.out.mono (by omega)))
  have HC2 : Hid ((Kd.int .u64).C W2 A1 ws.length ws) := by rw [hW2]; exact Lib.hid (Kd.C_below HC1.out ((Below.refl _ _).alloc (Nat.le_refl _) _))
  have HR2 : Hid ((Kd.int .u64).R 30 W2 (w.heap.size + 1) (fun _ => True) (.slice A1 ws.length c1) ws) := by rw [hW2]; exact Lib.hid (Kd.R_below (Kd.R_lower HR1.out (by simp)) ((Below.refl _ _).alloc (Nat.le_refl _) _))
  rw [← hW2]
  have had : ad.block < W2.heap.size := by omega
  clear hW2 HC1 HR1 Hb HB hcell2
  cases b1 with
  | false =>
    refine wp_region_held_drew (S := fun w' => w'.cell? ⟨w1.heap.size, 0, none⟩ = some (.int .i64 (K : Int)) ∧ w'.cell? ⟨w1.heap.size, 1, none⟩ = some (.slice A1 ws.length c1)) (by kernel_rfl) (by go_keep) (fun hHeld => ?_)
    refine Held.take_val (i := 0) (some 48) (.agg #[.int .i64 (K : Int), .slice A1 ws.length c1]) rfl (by rfl) (by kernel_rfl) (by kernel_rfl) (by kernel_rfl) (fun _ _ _ h => h) (fun w hSw => (by (try dsimp only at hSw); go_simp)) hHeld ?_
    (try simp only [Act.put, List.setIfInBounds_toArray, List.set_cons_zero, List.set_cons_succ])
    refine Held.one_ready (i := 1) (by kernel_rfl) (AllReadyH.cons rfl (fun K hK => ?_) AllReadyH.nil)
    rw [if_pos (by rfl)]
    go_simp
    go_at_call 30; refine (may_any _ _ _ _ _ (by rw [Hwsl.out]; omega)).mono ?_; rw [Hwsl.out, Hb1.out]; rintro en w2 ⟨rfl, Hb2⟩; have k0 := (Hb2.cell (p := ⟨w1.heap.size, 0, none⟩) hsz2).trans q0; have k1 := (Hb2.cell (p := ⟨w1.heap.size, 1, none⟩) hsz2).trans q1
    refine hK.out _ _ ⟨k0, k1⟩ (fun hHeld2 => ?_)
    clear hK K hHeld
    (try simp only [Act.put, List.setIfInBounds_toArray, List.set_cons_zero, List.set_cons_succ])
    refine Held.take_val (i := 2) (some 50) (.bool true) rfl (by rfl) (by kernel_rfl) (by kernel_rfl) (by kernel_rfl) (fun _ _ _ h => h) (fun w hSw => (by (try dsimp only at hSw); go_simp)) hHeld2 ?_
    (try simp only [Act.put, List.setIfInBounds_toArray, List.set_cons_zero, List.set_cons_succ])
    refine Held.take_val (i := 3) (some 51) (.bool true) rfl (by rfl) (by kernel_rfl) (by kernel_rfl) (by kernel_rfl) (fun _ _ _ h => h) (fun w hSw => (by (try dsimp only at hSw); go_simp)) hHeld2 ?_
    (try simp only [Act.put, List.setIfInBounds_toArray, List.set_cons_zero, List.set_cons_succ])
    refine Held.take_pass (i := 4) (some 52) rfl (by rfl) (by kernel_rfl) (by kernel_rfl) (by kernel_rfl) (fun _ _ _ h => h) hHeld2 ?_
    (try simp only [Act.put, List.setIfInBounds_toArray, List.set_cons_zero, List.set_cons_succ])
    refine Held.take_pass (i := 5) (some 53) rfl (by rfl) (by kernel_rfl) (by kernel_rfl) (by kernel_rfl) (fun _ _ _ h => h) hHeld2 ?_
    (try simp only [Act.put, List.setIfInBounds_toArray, List.set_cons_zero, List.set_cons_succ])
    refine Held.take_pass (i := 6) (some 54) rfl (by rfl) (by kernel_rfl) (by kernel_rfl) (by kernel_rfl) (fun _ _ _ h => h) hHeld2 ?_
    (try simp only [Act.put, List.setIfInBounds_toArray, List.set_cons_zero, List.set_cons_succ])
    refine Held.take_pass (i := 7) (some 55) rfl (by rfl) (by kernel_rfl) (by kernel_rfl) (by kernel_rfl) (fun _ _ _ h => h) hHeld2 ?_
    (try simp only [Act.put, List.setIfInBounds_toArray, List.set_cons_zero, List.set_cons_succ])
    refine Held.take_pass (i := 8) (some 56) rfl (by rfl) (by kernel_rfl) (by kernel_rfl) (by kernel_rfl) (fun _ _ _ h => h) hHeld2 ?_
    (try simp only [Act.put, List.setIfInBounds_toArray, List.set_cons_zero, List.set_cons_succ])
    refine Held.take_pass (i := 9) (some 57) rfl (by rfl) (by kernel_rfl) (by kernel_rfl) (by kernel_rfl) (fun _ _ _ h => h) hHeld2 ?_
    (try simp only [Act.put, List.setIfInBounds_toArray, List.set_cons_zero, List.set_cons_succ])
    refine Held.take_pass (i := 10) (some 58) rfl (by rfl) (by kernel_rfl) (by kernel_rfl) (by kernel_rfl) (fun _ _ _ h => h) hHeld2 ?_
    (try simp only [Act.put, List.setIfInBounds_toArray, List.set_cons_zero, List.set_cons_succ])
    refine Held.take_pass (i := 11) (some 59) rfl (by rfl) (by kernel_rfl) (by kernel_rfl) (by kernel_rfl) (fun _ _ _ h => h) hHeld2 ?_
    (try simp only [Act.put, List.setIfInBounds_toArray, List.set_cons_zero, List.set_cons_succ])
    refine Held.take_pass (i := 12) (some 60) rfl (by rfl) (by kernel_rfl) (by kernel_rfl) (by kernel_rfl) (fun _ _ _ h => h) hHeld2 ?_
    (try simp only [Act.put, List.setIfInBounds_toArray, List.set_cons_zero, List.set_cons_succ])
    refine Held.take_pass (i := 13) (some 61) rfl (by rfl) (by kernel_rfl) (by kernel_rfl) (by kernel_rfl) (fun _ _ _ h => h) hHeld2 ?_
    (try simp only [Act.put, List.setIfInBounds_toArray, List.set_cons_zero, List.set_cons_succ])
    refine Held.take_val (i := 14) (some 62) (.bool true) rfl (by rfl) (by kernel_rfl) (by kernel_rfl) (by kernel_rfl) (fun _ _ _ h => h) (fun w hSw => (by (try dsimp only at hSw); go_simp)) hHeld2 ?_
    (try simp only [Act.put, List.setIfInBounds_toArray, List.set_cons_zero, List.set_cons_succ])
    refine wpAnyH_done (by kernel_rfl) ?_ _
    have y0 := (Hb2.cell (p := ⟨w.heap.size, 0, none⟩) (Nat.lt_trans hsz1 hsz2)).trans z0
    have y1 := (Hb2.cell (p := ⟨w.heap.size, 1, none⟩) (Nat.lt_trans hsz1 hsz2)).trans z1
    have g0 := (Hb2.frozen (p := ⟨w.heap.size, 0, none⟩) (Nat.lt_trans hsz1 hsz2)).trans f0
    have g1 := (Hb2.frozen (p := ⟨w.heap.size, 1, none⟩) (Nat.lt_trans hsz1 hsz2)).trans f1
    have HB4 : Hid (Below w.heap.size w w2) := Lib.hid (HB3.out.drew.trans (Hb2.mono (by simpa using HB3.out.size)))
    clear Hb2
    go_wp2
    have HN : NoFr w (.returned (.tuple #[.agg #[.int .i64 0, .slice none 0 0], .int .i64 0, .bool false])) ((w2.setCell ⟨w.heap.size, 0, none⟩ (.int .i64 0)).setCell ⟨w.heap.size, 1, none⟩ (.slice none 0 0)) := ⟨rfl, (HB4.out.setCell (Nat.le_refl _) _).setCell (Nat.le_refl _) _⟩
    exact bodyPost_ret (v := .tuple #[.agg #[.int .i64 0, .slice none 0 0], .int .i64 0, .bool false]) (by simp [results, Try.results31, go_sem, y0, y1]) rfl ⟨fun h => absurd h.1 Bool.noConfusion, fun _ => HN⟩
  | true =>
    obtain ⟨hk1, hk2, hk3⟩ := mayB_true.1 Hb1.out
    have Hmk := Lib.hid (fun W (hW : Hid (Below W2.heap.size W2 W)) => mark_call W e n K he hn hKL A1 c1 ws HWS.out (by rw [Hwsl.out]; exact hk3) (Kd.C_below HC2.out hW.out))
    clear hk1 hk2 hk3
    go_region_held3 (fun w' => w'.cell? ⟨w1.heap.size, 0, none⟩ = some (.int .i64 (K : Int)) ∧ w'.cell? ⟨w1.heap.size, 1, none⟩ = some (.slice A1 ws.length c1) ∧ w'.cell? ad = some (.int .u64 (x : Int)))
      (first | go_keep)
      (first
        | (go_at_call 30; refine (may_any _ _ _ _ _ (by rw [Hwsl.out]; omega)).mono ?_; rw [Hwsl.out, Hb1.out]; rintro en w2 ⟨rfl, Hb2⟩; have k0 := (Hb2.cell (p := ⟨w1.heap.size, 0, none⟩) hsz2).trans q0; have k1 := (Hb2.cell (p := ⟨w1.heap.size, 1, none⟩) hsz2).trans q1; have k2 := (Hb2.cell (p := ad) had).trans q2; have HB5 := Lib.hid ((Below.refl W2.heap.size W2).drew.trans Hb2); clear Hb2)
        | (go_at_call 73; refine (Hmk.out _ HB5).mono ?_; rintro en w3 ⟨rfl, Hb3⟩; have k3 := (Hb3.cell (p := ⟨w1.heap.size, 0, none⟩) (Nat.lt_of_lt_of_le hsz2 HB5.out.size)).trans k0; have k4 := (Hb3.cell (p := ⟨w1.heap.size, 1, none⟩) (Nat.lt_of_lt_of_le hsz2 HB5.out.size)).trans k1; have k5 := (Hb3.cell (p := ad) (Nat.lt_of_lt_of_le had HB5.out.size)).trans k2; have HB6 := Lib.hid (HB5.out.trans (Hb3.mono HB5.out.size)); clear Hb3))
    have HB7 : Hid (Below w.heap.size w w3) := Lib.hid (HB3.out.trans (HB6.out.mono (by simpa using HB3.out.size)))
    have y0 := (HB6.out.cell (p := ⟨w.heap.size, 0, none⟩) (Nat.lt_trans hsz1 hsz2)).trans z0
    have y1 := (HB6.out.cell (p := ⟨w.heap.size, 1, none⟩) (Nat.lt_trans hsz1 hsz2)).trans z1
    have g0 := (HB6.out.frozen (p := ⟨w.heap.size, 0, none⟩) (Nat.lt_trans hsz1 hsz2)).trans f0
    have g1 := (HB6.out.frozen (p := ⟨w.heap.size, 1, none⟩) (Nat.lt_trans hsz1 hsz2)).trans f1
    clear q0 q1 q2 z0 z1 f0 f1 k0 k1 k2
    cases b2 with
    | true =>
      have e2 := Hb2.out (by trivial)
      have HN : NoFr w (.returned (.tuple #[.agg #[.int .i64 0, .slice none 0 0], .int .i64 0, .bool false])) ((w3.setCell ⟨w.heap.size, 0, none⟩ (.int .i64 0)).setCell ⟨w.heap.size, 1, none⟩ (.slice none 0 0)) := ⟨rfl, (HB7.out.setCell (Nat.le_refl _) _).setCell (Nat.le_refl _) _⟩
      go_wp2
      exact bodyPost_ret (v := .tuple #[.agg #[.int .i64 0, .slice none 0 0], .int .i64 0, .bool false]) (by simp [results, Try.results31, go_sem, y0, y1]) rfl HN
    | false =>
      have e2 := Hb2.out (by trivial)
      have HR3 : Hid ((Kd.int .u64).R 30 w3 (w.heap.size + 1) (fun _ => True) (.slice A1 ws.length c1) ws) := Lib.hid (Kd.R_below HR2.out HB6.out)
      have HR4 := Lib.hid (R_past (R_past HR3.out 0 (.int .i64 (K : Int))) 1 (.slice A1 ws.length c1))
      have HB8 := Lib.hid ((HB7.out.setCell (p := ⟨w.heap.size, 0, none⟩) (Nat.le_refl _) (.int .i64 (K : Int))).setCell (p := ⟨w.heap.size, 1, none⟩) (Nat.le_refl _) (.slice A1 ws.length c1))
      go_wp2
      exact bodyPost_ret (v := .tuple #[.agg #[.int .i64 (K : Int), .slice A1 ws.length c1], .int .i64 ((1 + M : Nat) : Int), .bool true]) (by simp [results, Try.results31, go_sem, y0, y1]) rfl
        ⟨A1, c1, rfl, hl1, (Kd.R_reads' HR4.out).2.2, Kd.R_lower HR4.out (by omega), HB8.out⟩
end Go.Proofs.Ytmeoiennniknlaa.Frames

namespace Go.Proofs.Ytmeoiennniknlaa.Frames
open Go.RowKit Go.Shelf Go.Proofs.YtmeoiennniknlaaW.PrintWords Go.Proofs.Ytmeoiennniknlaa.Lb Go.Proofs.Ytmeoiennniknlaa.Sums
set_option linter.unusedVariables false
set_option linter.unusedSimpArgs false

/-- What Get gives. -/
def GetP (w : World) (r : Option (Fr × Nat)) (e : Ending) (w' : World) : Prop :=
  match r with
  | none => NoFr w e w'
  | some (f, m) => ∃ A1 c1, e = .returned (.tuple #[.agg #[.int .i64 f.f0, .slice A1 f.f1.length c1], .int .i64 (m : Int), .bool true]) ∧ f.f1.length ≤ c1 ∧
    (Kd.int .u64).C w' A1 f.f1.length f.f1 ∧ (Kd.int .u64).R 30 w' w.heap.size (fun _ => True) (.slice A1 f.f1.length c1) f.f1 ∧ Below w.heap.size w w'

theorem C_cell {k : IntKind} {w : World} {A : Option Addr} {l : List Int} (h : (Kd.int k).C w A l.length l) (j : Nat) (hj : j < l.length) : ∃ ad, A = some ad ∧ w.cell? (ad.add j) = some (.int k l[j]) := by
  obtain ⟨ad, c, e, _, hK, hc⟩ := Kd.C_get h 0 (j : Int) (by omega) (by omega)
  subst e
  refine ⟨ad, rfl, ?_⟩
  have e1 : l.getD (j : Int).toNat 0 = l[j] := by simp [List.getD_eq_getElem?_getD, hj]
  rw [e1] at hK
  obtain rfl : c = [.int k l[j]] := hK
  have := hc 0 _ rfl
  simpa [Kd.int, Kd.scalar] using this

theorem getR_none {e n : Int} {l : List Int} (h : l.length = 0 ∨ numB e = false ∨ numB n = false) : getR e n l = none := by
  unfold getR; rw [if_pos h]
theorem getR_some {e n : Int} {l : List Int} (h : ¬(l.length = 0 ∨ numB e = false ∨ numB n = false)) {x K M : Nat} {ws : List Int} (hx : (l.getD 0 0).toNat = x) (hK : x / 72057594037927936 = K) (hM : x / 4294967296 % 16777216 = M) (hw : (l.take (1 + M)).drop 1 = ws) :
    getR e n l = if l.length < 1 + M ∨ mayB (K : Int) M = false ∨ fmark e.toNat n.toNat K ws ≠ x then none else some (⟨K, ws⟩, 1 + M) := by
  subst hK hM hw hx
  unfold getR; rw [if_neg h]

theorem get_any (w : World) (e n : Int) (A : Option Addr) (c : Nat) (l : List Int) (hl : WS l) (hm : l.length * 8 ≤ 140737488351232) (hc : l.length ≤ c) (hC : (Kd.int .u64).C w A l.length l) :
    Calls Try.prog 31 #[.int .i64 e, .int .i64 n, .slice A l.length c] w (GetP w (getR e n l)) := by
  by_cases h : l.length = 0 ∨ numB e = false ∨ numB n = false
  · rw [getR_none h]
    exact get_no1 w e n A l.length c (by omega) h
  · have hl0 : 0 < l.length := by
      rcases Nat.eq_zero_or_pos l.length with h0 | h0
      · exact absurd (Or.inl h0) h
      · exact h0
    have he : numB e = true := by
      cases h1 : numB e with
      | true => rfl
      | false => exact absurd (Or.inr (Or.inl h1)) h
    have hn : numB n = true := by
      cases h1 : numB n with
      | true => rfl
      | false => exact absurd (Or.inr (Or.inr h1)) h
    obtain ⟨ad, rfl, hcell⟩ := C_cell hC 0 hl0
    obtain ⟨x, hx⟩ : ∃ x : Nat, (l.getD 0 0).toNat = x := ⟨_, rfl⟩
    have h0 : l.getD 0 0 = l[0] := by simp [List.getD_eq_getElem?_getD, hl0]
    have hb := hl l[0] (List.getElem_mem hl0)
    have hx2 : (l[0] : Int) = (x : Int) := by rw [← hx, h0]; omega
    have hxl : x < 18446744073709551616 := by omega
    rw [hx2] at hcell
    have hcell : w.cell? ad = some (.int .u64 (x : Int)) := by simpa [Addr.add] using hcell
    obtain ⟨K, hK⟩ : ∃ K, x / 72057594037927936 = K := ⟨_, rfl⟩
    obtain ⟨M, hM⟩ : ∃ M, x / 4294967296 % 16777216 = M := ⟨_, rfl⟩
    obtain ⟨ws, hws⟩ : ∃ ws, (l.take (1 + M)).drop 1 = ws := ⟨_, rfl⟩
    rw [getR_some h hx hK hM hws]
    by_cases h2 : l.length < 1 + M
    · rw [if_pos (Or.inl h2)]
      exact get_no2 w e n he hn ad c x K M l hl0 hm hxl hK hM hcell h2
    · obtain ⟨e1, e2⟩ := numB_true.1 he
      obtain ⟨n1, n2⟩ := numB_true.1 hn
      have ee : ((e.toNat : Nat) : Int) = e := by omega
      have en : ((n.toNat : Nat) : Int) = n := by omega
      have H := get_main w e.toNat n.toNat (by omega) (by omega) ad c x K M l ws hl hc hm hxl hK hM hcell hC (by omega) hws.symm (mayB (K : Int) M) (((fmark e.toNat n.toNat K ws : Nat) : Int) != (x : Int)) rfl (fun _ => rfl)
      rw [ee, en] at H
      refine H.mono fun en w' ⟨h3, h4⟩ => ?_
      by_cases h5 : mayB (K : Int) M = true ∧ (((fmark e.toNat n.toNat K ws : Nat) : Int) != (x : Int)) = false
      · rw [if_neg]
        · exact h3 h5
        · rintro (h6 | h6 | h6)
          · exact h2 h6
          · rw [h5.1] at h6; cases h6
          · have := h5.2
            simp only [bne_eq_false_iff_eq] at this
            omega
      · rw [if_pos]
        · exact h4 h5
        · cases h7 : mayB (K : Int) M with
          | false => exact Or.inr (Or.inl rfl)
          | true =>
            refine Or.inr (Or.inr fun h8 => h5 ⟨h7, ?_⟩)
            rw [h8]; simp
end Go.Proofs.Ytmeoiennniknlaa.Frames
