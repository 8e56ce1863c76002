/- The contracts of package sums: Mark, Open, Fits; and what the reference's are. -/
import Derived.Test.YtmeoiennniknlaaSumsCalls
import Derived.Test.YtmeoiennniknlaaRef02
namespace Go.Proofs.Ytmeoiennniknlaa.Sums
open Go.RowKit Go.Shelf Go.Proofs.YtmeoiennniknlaaW.PrintWords Go.Proofs.Ytmeoiennniknlaa.Lb
set_option linter.unusedVariables false
set_option linter.unusedSimpArgs false

theorem infoU64 : (Try.prog.info? 30).map (fun i => (i.zero, i.size, i.bytes)) = some (some (.int .u64 0), 1, 8) := by kernel_rfl

theorem mark_or (kind n s : Nat) (hk : kind < 256) (hn : n < 16777216) (hs : s < 4294967296) :
    bits .or .u64 (bits .or .u64 (((kind * 72057594037927936 : Nat)) : Int) ((n * 4294967296 : Nat) : Int)) (s : Int) = ((kind * 72057594037927936 + n * 4294967296 + s : Nat) : Int) := by
  rw [u64_or_nat _ _ (by omega) (by omega)]
  have e1 : kind * 72057594037927936 ||| n * 4294967296 = kind * 72057594037927936 + n * 4294967296 := by
    have := Nat.two_pow_add_eq_or_of_lt (i := 56) (b := n * 4294967296) (by omega) kind
    rw [show (2 : Nat) ^ 56 = 72057594037927936 from rfl, Nat.mul_comm] at this
    exact this.symm
  rw [e1, u64_or_nat _ _ (by omega) (by omega)]
  have e2 : kind * 72057594037927936 + n * 4294967296 ||| s = kind * 72057594037927936 + n * 4294967296 + s := by
    have := Nat.two_pow_add_eq_or_of_lt (i := 32) (b := s) (by omega) (kind * 16777216 + n)
    rw [show (2 : Nat) ^ 32 = 4294967296 from rfl] at this
    rw [show kind * 72057594037927936 + n * 4294967296 = 4294967296 * (kind * 16777216 + n) by omega]
    exact this.symm
  rw [e2]

theorem mark_or' (kind n s : Nat) (hk : kind < 256) (hn : n < 16777216) (hs : s < 4294967296) :
    bits .or .u64 (bits .or .u64 ((kind : Int) * 72057594037927936) ((n : Int) * 4294967296)) (s : Int) = ((kind * 72057594037927936 + n * 4294967296 + s : Nat) : Int) := by
  have h := mark_or kind n s hk hn hs
  rw [Int.natCast_mul, Int.natCast_mul] at h
  exact h

set_option maxRecDepth 100000 in
set_option maxHeartbeats 400000 in
theorem mark_any (w : World) (kind n : Nat) (hk : kind < 256) (hn : n < 16777216) (A : Option Addr) (c : Nat) (ws : List Nat) (hreach : ws.length * 8 + 24 ≤ 140737488351232) (hC : (Kd.int .u64).C w A ws.length (il ws)) :
    Calls Try.prog 21 #[.int .i64 (kind : Int), .int .i64 (n : Int), .slice A ws.length c] w fun e w' => e = .returned (.tuple #[.int .u64 ((mark kind n ws : Nat) : Int), .bool true]) ∧ Below w.heap.size w w' := by
  have HO := Lib.hid (lit_R w w (Below.refl _ _) .u64 30 [(kind : Int), (n : Int)] (by simp))
  have HB : Hid (Below w.heap.size w (w.alloc (.cells #[.int .u64 (kind : Int), .int .u64 (n : Int)] 30))) := (Below.refl _ w).alloc (Nat.le_refl _) _
  have HC := Lib.hid hC
  have Hr := Lib.hid hreach
  clear hC hreach
  obtain ⟨s, hs⟩ : ∃ s, s = wsum (kind :: n :: ws) := ⟨_, rfl⟩
  have hsl : s < 4294967296 := by rw [hs]; exact wsum_lt _
  have hor := mark_or' kind n s hk hn hsl
  obtain ⟨mk, hmk⟩ : ∃ mk, mk = mark kind n ws := ⟨_, rfl⟩
  have hmk' : kind * 72057594037927936 + n * 4294967296 + s = mk := by rw [hmk, hs]; rfl
  rw [← hmk]
  have Hs := Lib.hid hs
  have Hor := Lib.hid hor
  have Hmk := Lib.hid hmk'
  clear hs hor hmk hmk'
  go_enter Try.func21, Try.ntmps21
  go_wp2_with (first
    | (at_builtin; refine app_ints (w0 := w) .u64 23 30 8 Try.underlying23 infoU64 (by omega) rfl _ _ rfl _ [(kind : Int), (n : Int)] (il ws) (il (kind :: n :: ws)) A ws.length c (ws.length + 1 + 1) rfl rfl HO.out (Kd.C_below HC.out HB.out) HB.out ?_ ?_ ?_ ?_; rotate_right; intro A1 c1 w1 hl1 hC1 hR1 hb1; have Hb1 := Lib.hid hb1; have HC1 := Lib.hid hC1; clear hR1 hb1 hC1)
    | (go_at_call 19; refine (of_any _ _ _ (kind :: n :: ws) ?_ HC1.out).mono ?_; rotate_right; rintro e w' ⟨rfl, hb2⟩; have Hb2 := Lib.hid hb2; clear hb2; rw [← Hs.out]))
  case refine_1 => have := Hr.out; simp only [List.length_cons]; omega
  case refine_1 => rfl
  case refine_2 => simp [il]
  case refine_3 => have := Hr.out; omega
  · rw [Hor.out, Hmk.out]
    go_ret2
    exact ⟨rfl, Hb1.out.trans (Hb2.out.mono Hb1.out.size)⟩

set_option maxRecDepth 100000 in
set_option maxHeartbeats 400000 in
theorem mark_none (w : World) (kind n : Int) (sv : Value) (h : kind < 0 ∨ 255 < kind ∨ n < 0 ∨ 16777215 < n) :
    Calls Try.prog 21 #[.int .i64 kind, .int .i64 n, sv] w fun e w' => e = .returned (.tuple #[.int .u64 0, .bool false]) ∧ w = w' := by
  by_cases h1 : kind < 0
  · clear h
    go_enter Try.func21, Try.ntmps21
    go_wp2
    go_ret2
    exact ⟨rfl, rfl⟩
  · by_cases h2 : 255 < kind
    · clear h
      go_enter Try.func21, Try.ntmps21
      go_wp2
      go_ret2
      exact ⟨rfl, rfl⟩
    · by_cases h3 : n < 0
      · clear h
        go_enter Try.func21, Try.ntmps21
        go_wp2
        go_ret2
        exact ⟨rfl, rfl⟩
      · have h4 : 16777215 < n := by omega
        clear h
        go_enter Try.func21, Try.ntmps21
        go_wp2
        go_ret2
        exact ⟨rfl, rfl⟩

theorem nat_beq (r x : Nat) : ((r : Int) == (x : Int)) = decide (r = x) := by
  rw [Bool.eq_iff_iff]; simp; omega
theorem open_and (x : Nat) (hx : x < 18446744073709551616) : bits .and .u64 ((x : Int) / 4294967296) 16777215 = ((x / 4294967296 % 16777216 : Nat) : Int) := by
  have h := u64_and_nat (x / 4294967296) 16777215 (by omega) (by omega)
  rw [show (16777215 : Nat) = 2 ^ 24 - 1 from rfl, Nat.and_two_pow_sub_one_eq_mod] at h
  exact h

set_option maxRecDepth 100000 in
set_option maxHeartbeats 400000 in
theorem open_any (w : World) (x : Nat) (hx : x < 18446744073709551616) :
    Calls Try.prog 23 #[.int .u64 (x : Int)] w fun e w' => e = .returned (.tuple #[.int .i64 ((x / 72057594037927936 : Nat) : Int), .int .i64 ((x / 4294967296 % 16777216 : Nat) : Int), .int .u32 ((x % 4294967296 : Nat) : Int)]) ∧ w = w' := by
  have ha := open_and x hx
  obtain ⟨m, hm⟩ : ∃ m, m = x / 4294967296 % 16777216 := ⟨_, rfl⟩
  have hml : m < 16777216 := by rw [hm]; exact Nat.mod_lt _ (by decide)
  rw [← hm] at ha ⊢
  have Hm := Lib.hid hm
  clear hm
  go_enter Try.func23, Try.ntmps23
  go_wp2
  go_ret3
  exact ⟨rfl, rfl⟩

set_option maxRecDepth 100000 in
set_option maxHeartbeats 400000 in
theorem fits_any (w : World) (x : Nat) (hx : x < 18446744073709551616) (A : Option Addr) (c : Nat) (ws : List Nat) (hreach : ws.length * 8 + 24 ≤ 140737488351232) (hC : (Kd.int .u64).C w A ws.length (il ws)) :
    Calls Try.prog 24 #[.int .u64 (x : Int), .slice A ws.length c] w fun e w' => e = .returned (.bool (decide (mark (x / 72057594037927936) (x / 4294967296 % 16777216) ws = x))) ∧ Below w.heap.size w w' := by
  have HC := Lib.hid hC
  clear hC
  obtain ⟨m, hm⟩ : ∃ m, m = x / 4294967296 % 16777216 := ⟨_, rfl⟩
  have hml : m < 16777216 := by rw [hm]; exact Nat.mod_lt _ (by decide)
  obtain ⟨k, hk⟩ : ∃ k, k = x / 72057594037927936 := ⟨_, rfl⟩
  have hkl : k < 256 := by omega
  obtain ⟨r, hr⟩ : ∃ r, r = mark k m ws := ⟨_, rfl⟩
  have Hopen : Hid (∀ w, Calls Try.prog 23 #[.int .u64 (x : Int)] w fun e w' => e = .returned (.tuple #[.int .i64 (k : Int), .int .i64 (m : Int), .int .u32 ((x % 4294967296 : Nat) : Int)]) ∧ w = w') := by
    intro w; rw [hk, hm]; exact open_any w x hx
  have Hmark : Hid (Calls Try.prog 21 #[.int .i64 (k : Int), .int .i64 (m : Int), .slice A ws.length c] w fun e w' => e = .returned (.tuple #[.int .u64 (r : Int), .bool true]) ∧ Below w.heap.size w w') := by
    rw [hr]; exact mark_any w k m hkl hml A c ws hreach HC.out
  have Hg : Hid (decide (mark (x / 72057594037927936) (x / 4294967296 % 16777216) ws = x) = decide (r = x)) := by
    rw [hr, hk, hm]; rfl
  clear hm hk hr hkl hml hreach
  rw [Hg.out]
  go_enter Try.func24, Try.ntmps24
  go_wp2_with (first
    | (go_at_call 23; refine (Hopen.out _).mono ?_; rintro e w' ⟨rfl, rfl⟩)
    | (go_at_call 21; refine Hmark.out.mono ?_; rintro e w' ⟨rfl, hb⟩))
  rw [nat_beq]
  go_ret
  exact ⟨rfl, hb⟩

/-! The reference's. -/
theorem drawn_below {w w' : World} (h : Drawn0 w w') : Below w.heap.size w w' := h.below
theorem refBytes_any (w : World) (A : Option Addr) (c : Nat) (l : List Nat) (hl : ∀ c ∈ l, c < 256) (hn : l.length ≤ 140737488355328) (hc : l.length ≤ c) (hC : (Kd.int .u8).C w A l.length (il l)) :
    Calls Try.prog 18 #[.slice A l.length c] w fun e w' => e = .returned (.int .u32 ((bsum l : Nat) : Int)) ∧ Below w.heap.size w w' := by
  obtain ⟨k, hk⟩ := ref_bytes l hl hn
  have h := PFramesGet.gimmalref02_Bytes.calls k A c (il l) _ w (by rw [il_length]; exact hC) (by rw [il_length]; exact hc) hk
  rw [il_length] at h
  exact h.mono fun e w' ⟨he, hw⟩ => ⟨he, hw.below⟩
theorem refOf_any (w : World) (A : Option Addr) (c : Nat) (ws : List Nat) (hw : ∀ x ∈ ws, x < 18446744073709551616) (hn : ws.length * 8 + 8 < 140737488355328) (hc : ws.length ≤ c) (hC : (Kd.int .u64).C w A ws.length (il ws)) :
    Calls Try.prog 20 #[.slice A ws.length c] w fun e w' => e = .returned (.int .u32 ((wsum ws : Nat) : Int)) ∧ Below w.heap.size w w' := by
  obtain ⟨k, hk⟩ := ref_of ws hw hn
  have h := PFramesGet.gimmalref02_Of.calls k A c (il ws) _ w (by rw [il_length]; exact hC) (by rw [il_length]; exact hc) hk
  rw [il_length] at h
  exact h.mono fun e w' ⟨he, hw⟩ => ⟨he, by first | exact hw | exact hw.below⟩
theorem refMark_any (w : World) (kind n : Nat) (hk : kind < 256) (hn : n < 16777216) (A : Option Addr) (c : Nat) (ws : List Nat) (hw : ∀ x ∈ ws, x < 18446744073709551616) (hlen : ws.length * 8 + 24 < 140737488355328) (hc : ws.length ≤ c) (hC : (Kd.int .u64).C w A ws.length (il ws)) :
    Calls Try.prog 22 #[.int .i64 (kind : Int), .int .i64 (n : Int), .slice A ws.length c] w fun e w' => e = .returned (.tuple #[.int .u64 ((mark kind n ws : Nat) : Int), .bool true]) ∧ Below w.heap.size w w' := by
  obtain ⟨k, hk⟩ := ref_mark kind n hk hn ws hw hlen
  have h := PFramesGet.gimmalref02_Mark.calls k kind n A c (il ws) _ _ w (by rw [il_length]; exact hC) (by rw [il_length]; exact hc) hk
  rw [il_length] at h
  exact h.mono fun e w' ⟨he, hw⟩ => ⟨he, by first | exact hw | exact hw.below⟩
theorem refMark_none (w : World) (kind n : Int) (A : Option Addr) (c : Nat) (l : List Int) (h : kind < 0 ∨ kind > 255 ∨ n < 0 ∨ n > 16777215) (hc : l.length ≤ c) (hC : (Kd.int .u64).C w A l.length l) :
    Calls Try.prog 22 #[.int .i64 kind, .int .i64 n, .slice A l.length c] w fun e w' => e = .returned (.tuple #[.int .u64 0, .bool false]) ∧ Below w.heap.size w w' := by
  have h := PFramesGet.gimmalref02_Mark.calls 0 kind n A c l _ _ w hC hc (ref_mark_none kind n l h)
  exact h.mono fun e w' ⟨he, hw⟩ => ⟨he, by first | exact hw | exact hw.below⟩
end Go.Proofs.Ytmeoiennniknlaa.Sums
