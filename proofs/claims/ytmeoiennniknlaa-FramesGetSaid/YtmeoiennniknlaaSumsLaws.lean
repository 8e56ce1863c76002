/- The walks of the statements SumsApart and SumsMarks. -/
import Derived.Test.YtmeoiennniknlaaSumsOfWalk
namespace Go.Proofs.Ytmeoiennniknlaa.Sums
open Go.RowKit Go.Shelf Go.Proofs.YtmeoiennniknlaaW.PrintWords Go.Proofs.Ytmeoiennniknlaa.Lb
set_option linter.unusedVariables false
set_option linter.unusedSimpArgs false

section
variable {w W : World}
theorem hB_at {f : FuncId} {args : Array Value} {p : Ending → Prop} (hB : Hid (Below w.heap.size w W)) (h : Calls Try.prog f args W fun e w' => p e ∧ Below W.heap.size W w') : Calls Try.prog f args W fun e w' => p e ∧ Hid (Below w.heap.size w w') :=
  h.mono fun _ _ ⟨he, hb⟩ => ⟨he, Lib.hid (hB.out.trans (hb.mono hB.out.size))⟩
theorem alive_at (hB : Hid (Below w.heap.size w W)) : Calls Try.prog 16 #[] W fun e w' => e = .returned (.bool true) ∧ Hid (Below w.heap.size w w') := hB_at hB (alive_any W)
theorem mark_at {kind n : Nat} {A : Option Addr} {c m : Nat} {ws : List Nat} (hB : Hid (Below w.heap.size w W)) (hC : Hid ((Kd.int .u64).C w A ws.length (il ws))) (hm : m = ws.length) (hk : kind < 256) (hn : n < 16777216) (hreach : ws.length * 8 + 24 ≤ 140737488351232) :
    Calls Try.prog 21 #[.int .i64 (kind : Int), .int .i64 (n : Int), .slice A m c] W fun e w' => e = .returned (.tuple #[.int .u64 ((mark kind n ws : Nat) : Int), .bool true]) ∧ Hid (Below w.heap.size w w') := by
  subst hm; exact hB_at hB (mark_any W kind n hk hn A c ws hreach (Kd.C_below hC.out hB.out))
theorem refMark_at {kind n : Nat} {A : Option Addr} {c m : Nat} {ws : List Nat} (hB : Hid (Below w.heap.size w W)) (hC : Hid ((Kd.int .u64).C w A ws.length (il ws))) (hw : Hid (∀ x ∈ ws, x < 18446744073709551616)) (hm : m = ws.length) (hk : kind < 256) (hn : n < 16777216) (hreach : ws.length * 8 + 24 ≤ 140737488351232) (hc : ws.length ≤ c) :
    Calls Try.prog 22 #[.int .i64 (kind : Int), .int .i64 (n : Int), .slice A m c] W fun e w' => e = .returned (.tuple #[.int .u64 ((mark kind n ws : Nat) : Int), .bool true]) ∧ Hid (Below w.heap.size w w') := by
  subst hm; exact hB_at hB (refMark_any W kind n hk hn A c ws hw.out (by omega) hc (Kd.C_below hC.out hB.out))
theorem fits_at {x : Nat} {A : Option Addr} {c m : Nat} {ws : List Nat} {b : Bool} (hB : Hid (Below w.heap.size w W)) (hC : Hid ((Kd.int .u64).C w A ws.length (il ws))) (hm : m = ws.length) (hx : x < 18446744073709551616) (hreach : ws.length * 8 + 24 ≤ 140737488351232) (hb : Hid (decide (mark (x / 72057594037927936) (x / 4294967296 % 16777216) ws = x) = b)) :
    Calls Try.prog 24 #[.int .u64 (x : Int), .slice A m c] W fun e w' => e = .returned (.bool b) ∧ Hid (Below w.heap.size w w') := by
  subst hm; have h := hB_at hB (fits_any W x hx A c ws hreach (Kd.C_below hC.out hB.out)); rw [hb.out] at h; exact h
end

theorem mark_inj {k k' n n' : Nat} {l : List Nat} (hk : k < 256) (hk' : k' < 256) (hn : n < 16777216) (hn' : n' < 16777216) (h : mark k n l = mark k' n' l) : k = k' ∧ n = n' := by
  have h1 := mark_open hk hn l
  have h2 := mark_open hk' hn' l
  rw [h] at h1
  exact ⟨h1.1.symm.trans h2.1, h1.2.1.symm.trans h2.2.1⟩

set_option maxRecDepth 100000 in
set_option maxHeartbeats 1000000 in
theorem apart_walk (w : World) (k k' n n' : Nat) (hk : k < 256) (hk' : k' < 256) (hn : n < 65536) (hn' : n' < 65536) (A : Option Addr) (c : Nat) (ws : List Nat) (hw : ∀ x ∈ ws, x < 18446744073709551616) (hc : ws.length ≤ c) (hreach : ws.length ≤ 140737488351232) (hC : (Kd.int .u64).C w A ws.length (il ws)) :
    Calls Try.prog 4 #[.int .u8 (k : Int), .int .u8 (k' : Int), .int .u16 (n : Int), .int .u16 (n' : Int), .slice A ws.length c] w fun e w' => e = .returned (.bool true) ∧ Below w.heap.size w w' := by
  have HC := Lib.hid hC
  have HW := Lib.hid hw
  have HB := Lib.hid (Below.refl w.heap.size w)
  clear hC hw
  by_cases h2 : 400 < ws.length
  · go_enter Try.func4, Try.ntmps4
    go_wp2_with (go_at_call 16; refine (alive_at HB).mono ?_; rintro e w' ⟨rfl, Hb⟩)
    go_ret
    exact ⟨rfl, Hb.out⟩
  · by_cases hkk : k = k'
    · subst hkk
      by_cases hnn : n = n'
      · subst hnn
        go_enter Try.func4, Try.ntmps4
        go_wp2_with (first
          | (go_at_call 16; refine (alive_at HB).mono ?_; rintro e w' ⟨rfl, Hb⟩)
          | (go_at_call 21; refine (mark_at (by assumption) HC rfl hk (by omega) (by omega)).mono ?_; rintro e w' ⟨rfl, Hb⟩)
          | (go_at_call 22; refine (refMark_at (by assumption) HC HW rfl hk (by omega) (by omega) hc).mono ?_; rintro e w' ⟨rfl, Hb⟩))
        go_ret
        exact ⟨rfl, Hb.out⟩
      · have hab : ((mark k n ws : Nat) : Int) ≠ ((mark k n' ws : Nat) : Int) := fun h => hnn (mark_inj hk hk (by omega) (by omega) (Int.ofNat_inj.1 h)).2
        have hab1 : (((mark k n ws : Nat) : Int) == ((mark k n' ws : Nat) : Int)) = false := beq_eq_false_iff_ne.2 hab
        have hnn1 : ((n : Int) == (n' : Int)) = false := beq_eq_false_iff_ne.2 (fun h => hnn (Int.ofNat_inj.1 h))
        clear hab hnn
        go_enter Try.func4, Try.ntmps4
        go_wp2_with (first
          | (go_at_call 16; refine (alive_at HB).mono ?_; rintro e w' ⟨rfl, Hb⟩)
          | (go_at_call 21; refine (mark_at (by assumption) HC rfl hk (by omega) (by omega)).mono ?_; rintro e w' ⟨rfl, Hb⟩)
          | (go_at_call 22; refine (refMark_at (by assumption) HC HW rfl hk (by omega) (by omega) hc).mono ?_; rintro e w' ⟨rfl, Hb⟩))
        go_ret
        exact ⟨rfl, Hb.out⟩
    · have hab : ((mark k n ws : Nat) : Int) ≠ ((mark k' n' ws : Nat) : Int) := fun h => hkk (mark_inj hk hk' (by omega) (by omega) (Int.ofNat_inj.1 h)).1
      have hab1 : (((mark k n ws : Nat) : Int) == ((mark k' n' ws : Nat) : Int)) = false := beq_eq_false_iff_ne.2 hab
      have hkk1 : ((k : Int) == (k' : Int)) = false := beq_eq_false_iff_ne.2 (fun h => hkk (Int.ofNat_inj.1 h))
      clear hab hkk
      go_enter Try.func4, Try.ntmps4
      go_wp2_with (first
        | (go_at_call 16; refine (alive_at HB).mono ?_; rintro e w' ⟨rfl, Hb⟩)
        | (go_at_call 21; refine (mark_at (by assumption) HC rfl (by assumption) (by omega) (by omega)).mono ?_; rintro e w' ⟨rfl, Hb⟩)
        | (go_at_call 22; refine (refMark_at (by assumption) HC HW rfl (by assumption) (by omega) (by omega) hc).mono ?_; rintro e w' ⟨rfl, Hb⟩))
      go_ret
      exact ⟨rfl, Hb.out⟩
theorem nat8 {x : Int} (h : (Lit.int .u8 x).wf = true) : ∃ n : Nat, x = n ∧ n < 256 := by
  have := bounds_u8 h
  exact ⟨x.toNat, by omega, by omega⟩
theorem nat16 {x : Int} (h : (Lit.int .u16 x).wf = true) : ∃ n : Nat, x = n ∧ n < 65536 := by
  have := bounds_u16 h
  exact ⟨x.toNat, by omega, by omega⟩
theorem nat64 {x : Int} (h : (Lit.int .u64 x).wf = true) : ∃ n : Nat, x = n ∧ n < 18446744073709551616 := by
  have := bounds_u64 h
  exact ⟨x.toNat, by omega, by omega⟩

theorem sumsApart_law (W : World) (x0 : Int) (w0 : (Lit.int .u8 x0).wf = true) (x1 : Int) (w1 : (Lit.int .u8 x1).wf = true) (x2 : Int) (w2 : (Lit.int .u16 x2).wf = true) (x3 : Int) (w3 : (Lit.int .u16 x3).wf = true) {a1 : Option Addr} {cap1 : Nat}
    (l1 : List Int) (hm1 : l1.length ≤ maxLen) (y1 : l1.length * 8 ≤ 140737488351232) (hw1 : ∀ x ∈ l1, (Lit.int .u64 x).wf = true) (hc1 : l1.length ≤ cap1) (hr1 : (Kd.int .u64).C W a1 l1.length l1) :
    Calls Try.prog 4 #[.int .u8 x0, .int .u8 x1, .int .u16 x2, .int .u16 x3, .slice a1 l1.length cap1] W fun e w' => e = .returned (.bool true) ∧ Below W.heap.size W w' := by
  obtain ⟨k, rfl, hk⟩ := nat8 w0
  obtain ⟨k', rfl, hk'⟩ := nat8 w1
  obtain ⟨n, rfl, hn⟩ := nat16 w2
  obtain ⟨n', rfl, hn'⟩ := nat16 w3
  have h := apart_walk W k k' n n' hk hk' hn hn' a1 cap1 (l1.map Int.toNat) (words_lt l1 hw1) (by rw [List.length_map]; exact hc1) (by rw [List.length_map]; omega) (by rw [List.length_map, words_il l1 hw1]; exact hr1)
  rw [List.length_map] at h
  exact h

/-! SumsMarks. -/
set_option maxRecDepth 100000 in
set_option maxHeartbeats 1000000 in
theorem marks_great (w : World) (kind n x : Int) (A : Option Addr) (c m : Nat) (h : 400 < m) (hm : m ≤ 140737488351232) :
    Calls Try.prog 5 #[.int .i64 kind, .int .i64 n, .slice A m c, .int .u64 x] w fun e w' => e = .returned (.bool true) ∧ Below w.heap.size w w' := by
  have HB := Lib.hid (Below.refl w.heap.size w)
  go_enter Try.func5, Try.ntmps5
  go_wp2_with (go_at_call 16; (with_reducible refine (alive_at HB).mono ?_); rintro e w' ⟨rfl, Hb⟩)
  go_ret
  exact ⟨rfl, Hb.out⟩
theorem mark_none_at {w W : World} {kind n : Int} {sv : Value} (hB : Hid (Below w.heap.size w W)) (h : Hid (kind < 0 ∨ 255 < kind ∨ n < 0 ∨ 16777215 < n)) :
    Calls Try.prog 21 #[.int .i64 kind, .int .i64 n, sv] W fun e w' => e = .returned (.tuple #[.int .u64 0, .bool false]) ∧ Hid (Below w.heap.size w w') :=
  (mark_none W kind n sv h.out).mono fun e w' ⟨he, hw⟩ => ⟨he, by subst hw; exact hB⟩
theorem refMark_none_at {w W : World} {kind n : Int} {A : Option Addr} {c m : Nat} {ws : List Nat} (hB : Hid (Below w.heap.size w W)) (hC : Hid ((Kd.int .u64).C w A ws.length (il ws))) (hm : m = ws.length) (hc : ws.length ≤ c) (h : Hid (kind < 0 ∨ 255 < kind ∨ n < 0 ∨ 16777215 < n)) :
    Calls Try.prog 22 #[.int .i64 kind, .int .i64 n, .slice A m c] W fun e w' => e = .returned (.tuple #[.int .u64 0, .bool false]) ∧ Hid (Below w.heap.size w w') := by
  subst hm
  have h2 := refMark_none W kind n A c (il ws) h.out (by rw [il_length]; exact hc) (by rw [il_length]; exact Kd.C_below hC.out hB.out)
  rw [il_length] at h2
  exact hB_at hB h2
theorem open_at {w W : World} {x K M S : Nat} (hB : Hid (Below w.heap.size w W)) (hx : x < 18446744073709551616) (hK : Hid (x / 72057594037927936 = K)) (hM : Hid (x / 4294967296 % 16777216 = M)) (hS : Hid (x % 4294967296 = S)) :
    Calls Try.prog 23 #[.int .u64 (x : Int)] W fun e w' => e = .returned (.tuple #[.int .i64 (K : Int), .int .i64 (M : Int), .int .u32 (S : Int)]) ∧ Hid (Below w.heap.size w w') :=
  (open_any W x hx).mono fun e w' ⟨he, hw⟩ => ⟨by rw [he, hK.out, hM.out, hS.out], by subst hw; exact hB⟩

set_option maxRecDepth 100000 in
set_option maxHeartbeats 1000000 in
theorem marks_none (w : World) (kind n : Int) (hno : kind < 0 ∨ 255 < kind ∨ n < 0 ∨ 16777215 < n) (x : Nat) (hx : x < 18446744073709551616) (A : Option Addr) (c : Nat) (ws : List Nat) (hw : ∀ x ∈ ws, x < 18446744073709551616) (hc : ws.length ≤ c) (hreach : ws.length ≤ 400) (hC : (Kd.int .u64).C w A ws.length (il ws)) :
    Calls Try.prog 5 #[.int .i64 kind, .int .i64 n, .slice A ws.length c, .int .u64 (x : Int)] w fun e w' => e = .returned (.bool true) ∧ Below w.heap.size w w' := by
  have HC := Lib.hid hC
  have HW := Lib.hid hw
  have HN := Lib.hid hno
  have HB := Lib.hid (Below.refl w.heap.size w)
  obtain ⟨K, hK⟩ : ∃ K, x / 72057594037927936 = K := ⟨_, rfl⟩
  obtain ⟨M, hM⟩ : ∃ M, x / 4294967296 % 16777216 = M := ⟨_, rfl⟩
  obtain ⟨S, hS⟩ : ∃ S, x % 4294967296 = S := ⟨_, rfl⟩
  have hKl : K < 256 := by omega
  have hMl : M < 16777216 := by omega
  have hSl : S < 4294967296 := by omega
  have hK1 : (x : Int) / 72057594037927936 = (K : Int) := by omega
  have hM1 : (x : Int) / 4294967296 % 16777216 = (M : Int) := by omega
  have hS1 : (x : Int) % 4294967296 = (S : Int) := by omega
  obtain ⟨z, hz⟩ : ∃ z, z = mark K M ws := ⟨_, rfl⟩
  obtain ⟨b, hb⟩ : ∃ b, decide (mark (x / 72057594037927936) (x / 4294967296 % 16777216) ws = x) = b := ⟨_, rfl⟩
  have hzb : ((z : Int) == (x : Int)) = b := by rw [nat_beq, hz, ← hb, hK, hM]
  have Hb0 := Lib.hid hb
  have HK := Lib.hid hK
  have HM := Lib.hid hM
  have HS := Lib.hid hS
  have Hz := Lib.hid hz
  clear hC hw hno hK hM hS hz hb
  go_enter Try.func5, Try.ntmps5
  go_wp2_with (first
    | (go_at_call 16; (with_reducible refine (alive_at HB).mono ?_); rintro e w' ⟨rfl, Hb⟩)
    | (go_at_call 21; (with_reducible refine (mark_none_at (by assumption) HN).mono ?_); rintro e w' ⟨rfl, Hb⟩)
    | (go_at_call 22; (with_reducible refine (refMark_none_at (by assumption) HC rfl hc HN).mono ?_); rintro e w' ⟨rfl, Hb⟩)
    | (go_at_call 22; (with_reducible refine (refMark_at (by assumption) HC HW rfl hKl hMl (by omega) hc).mono ?_); rw [← Hz.out]; rintro e w' ⟨rfl, Hb⟩)
    | (go_at_call 23; (with_reducible refine (open_at (by assumption) hx HK HM HS).mono ?_); rintro e w' ⟨rfl, Hb⟩)
    | (go_at_call 24; (with_reducible refine (fits_at (by assumption) HC rfl hx (by omega) Hb0).mono ?_); rintro e w' ⟨rfl, Hb⟩))
  go_ret
  exact ⟨rfl, Hb.out⟩

set_option maxRecDepth 100000 in
set_option maxHeartbeats 2000000 in
theorem marks_some (w : World) (k n : Nat) (hk : k < 256) (hn : n < 16777216) (x : Nat) (hx : x < 18446744073709551616) (A : Option Addr) (c : Nat) (ws : List Nat) (hw : ∀ x ∈ ws, x < 18446744073709551616) (hc : ws.length ≤ c) (hreach : ws.length ≤ 400) (hC : (Kd.int .u64).C w A ws.length (il ws)) :
    Calls Try.prog 5 #[.int .i64 (k : Int), .int .i64 (n : Int), .slice A ws.length c, .int .u64 (x : Int)] w fun e w' => e = .returned (.bool true) ∧ Below w.heap.size w w' := by
  have HC := Lib.hid hC
  have HW := Lib.hid hw
  have HB := Lib.hid (Below.refl w.heap.size w)
  obtain ⟨K, hK⟩ : ∃ K, x / 72057594037927936 = K := ⟨_, rfl⟩
  obtain ⟨M, hM⟩ : ∃ M, x / 4294967296 % 16777216 = M := ⟨_, rfl⟩
  obtain ⟨S, hS⟩ : ∃ S, x % 4294967296 = S := ⟨_, rfl⟩
  have hKl : K < 256 := by omega
  have hMl : M < 16777216 := by omega
  have hSl : S < 4294967296 := by omega
  have hK1 : (x : Int) / 72057594037927936 = (K : Int) := by omega
  have hM1 : (x : Int) / 4294967296 % 16777216 = (M : Int) := by omega
  have hS1 : (x : Int) % 4294967296 = (S : Int) := by omega
  obtain ⟨z, hz⟩ : ∃ z, z = mark K M ws := ⟨_, rfl⟩
  obtain ⟨b, hb⟩ : ∃ b, decide (mark (x / 72057594037927936) (x / 4294967296 % 16777216) ws = x) = b := ⟨_, rfl⟩
  have hzb : ((z : Int) == (x : Int)) = b := by rw [nat_beq, hz, ← hb, hK, hM]
  have ho := mark_open hk hn ws
  obtain ⟨mk, hmk⟩ : ∃ mk, mk = mark k n ws := ⟨_, rfl⟩
  obtain ⟨s, hs⟩ : ∃ s, wsum (k :: n :: ws) = s := ⟨_, rfl⟩
  rw [← hmk, hs] at ho
  obtain ⟨hmK, hmM, hmS, hml⟩ := ho
  have hfit : decide (mark (mk / 72057594037927936) (mk / 4294967296 % 16777216) ws = mk) = true := by rw [hmK, hmM, hmk]; simp
  have Hf := Lib.hid hfit
  have HmK := Lib.hid hmK
  have HmM := Lib.hid hmM
  have HmS := Lib.hid hmS
  have Hmk := Lib.hid hmk
  have Hb0 := Lib.hid hb
  have HK := Lib.hid hK
  have HM := Lib.hid hM
  have HS := Lib.hid hS
  have Hz := Lib.hid hz
  clear hC hw hK hM hS hz hb hmk hs hmK hmM hmS hfit
  go_enter Try.func5, Try.ntmps5
  go_wp2_with (first
    | (go_at_call 16; (with_reducible refine (alive_at HB).mono ?_); rintro e w' ⟨rfl, Hb⟩)
    | (go_at_call 21; (with_reducible refine (mark_at (by assumption) HC rfl (by assumption) (by assumption) (by omega)).mono ?_); (try rw [← Hmk.out]); rintro e w' ⟨rfl, Hb⟩)
    | (go_at_call 22; (with_reducible refine (refMark_at (by assumption) HC HW rfl (by assumption) (by assumption) (by omega) hc).mono ?_); (try rw [← Hz.out]); (try rw [← Hmk.out]); rintro e w' ⟨rfl, Hb⟩)
    | (go_at_call 23; (with_reducible refine (open_at (by assumption) (by assumption) HK HM HS).mono ?_); rintro e w' ⟨rfl, Hb⟩)
    | (go_at_call 23; (with_reducible refine (open_at (by assumption) (by assumption) HmK HmM HmS).mono ?_); rintro e w' ⟨rfl, Hb⟩)
    | (go_at_call 24; (with_reducible refine (fits_at (by assumption) HC rfl (by assumption) (by omega) Hb0).mono ?_); rintro e w' ⟨rfl, Hb⟩)
    | (go_at_call 24; (with_reducible refine (fits_at (by assumption) HC rfl (by assumption) (by omega) Hf).mono ?_); rintro e w' ⟨rfl, Hb⟩))
  go_ret
  exact ⟨rfl, Hb.out⟩

theorem sumsMarks_law (W : World) (x0 : Int) (w0 : (Lit.int .i64 x0).wf = true) (x1 : Int) (w1 : (Lit.int .i64 x1).wf = true) {a1 : Option Addr} {cap1 : Nat}
    (l1 : List Int) (hm1 : l1.length ≤ maxLen) (y1 : l1.length * 8 ≤ 140737488351232) (hw1 : ∀ x ∈ l1, (Lit.int .u64 x).wf = true) (hc1 : l1.length ≤ cap1) (hr1 : (Kd.int .u64).C W a1 l1.length l1) (x3 : Int) (w3 : (Lit.int .u64 x3).wf = true) :
    Calls Try.prog 5 #[.int .i64 x0, .int .i64 x1, .slice a1 l1.length cap1, .int .u64 x3] W fun e w' => e = .returned (.bool true) ∧ Below W.heap.size W w' := by
  by_cases hg : 400 < l1.length
  · exact marks_great W x0 x1 x3 a1 cap1 _ hg (by omega)
  · obtain ⟨x, rfl, hx⟩ := nat64 w3
    have hl : (l1.map Int.toNat).length = l1.length := List.length_map _
    by_cases hno : x0 < 0 ∨ 255 < x0 ∨ x1 < 0 ∨ 16777215 < x1
    · have h := marks_none W x0 x1 hno x hx a1 cap1 (l1.map Int.toNat) (words_lt l1 hw1) (by omega) (by omega) (by rw [hl, words_il l1 hw1]; exact hr1)
      rw [hl] at h
      exact h
    · obtain ⟨k, rfl⟩ : ∃ k : Nat, x0 = k := ⟨x0.toNat, by omega⟩
      obtain ⟨n, rfl⟩ : ∃ n : Nat, x1 = n := ⟨x1.toNat, by omega⟩
      have h := marks_some W k n (by omega) (by omega) x hx a1 cap1 (l1.map Int.toNat) (words_lt l1 hw1) (by omega) (by omega) (by rw [hl, words_il l1 hw1]; exact hr1)
      rw [hl] at h
      exact h
end Go.Proofs.Ytmeoiennniknlaa.Sums
