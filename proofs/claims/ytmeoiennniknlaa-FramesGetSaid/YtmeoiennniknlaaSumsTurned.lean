/- The walk of the statement SumsTurned. -/
import Derived.Test.YtmeoiennniknlaaSumsLaws
import Derived.StillTailTactics
namespace Go.Proofs.Ytmeoiennniknlaa.Sums
open Go.RowKit Go.Shelf Go.Proofs.YtmeoiennniknlaaW.PrintWords Go.Proofs.Ytmeoiennniknlaa.Lb
set_option linter.unusedVariables false
set_option linter.unusedSimpArgs false

theorem mark_words {k n : Nat} {l l' : List Nat} (h : wsum (k :: n :: l) ≠ wsum (k :: n :: l')) : mark k n l ≠ mark k n l' := by
  unfold mark
  omega
theorem pow_lt {q : Nat} (h : q < 64) : (2 : Nat) ^ q < 18446744073709551616 := by
  have := Nat.pow_lt_pow_right (a := 2) (by decide) h
  simpa using this
theorem wrap_pow {q : Nat} (h : q < 64) : IntKind.u64.wrap ((2 : Int) ^ q) = ((2 ^ q : Nat) : Int) := by
  have h1 := pow_lt h
  have h2 : ((2 ^ q : Nat) : Int) = (2 : Int) ^ q := by rw [Int.natCast_pow]; rfl
  rw [← h2]
  exact u64_nat _ h1
theorem set_turned (k n : Nat) (ws : List Nat) (j q : Nat) (hj : j < ws.length) (hq : q < 64) : mark k n (ws.set j (ws[j] ^^^ 2 ^ q)) ≠ mark k n ws := by
  apply mark_words
  have h := wsum_turned (k :: n :: ws.take j) (ws.drop (j + 1)) ws[j] q hq
  have e1 : ws.set j (ws[j] ^^^ 2 ^ q) = ws.take j ++ (ws[j] ^^^ 2 ^ q) :: ws.drop (j + 1) := List.set_eq_take_append_cons_drop .. |>.trans (by rw [if_pos hj])
  have e2 : ws = ws.take j ++ ws[j] :: ws.drop (j + 1) := by
    conv => lhs; rw [← List.take_append_drop j ws, List.drop_eq_getElem_cons hj]
  rw [e1]
  conv => rhs; rw [e2]
  exact h
theorem turn_low (x r : Nat) (hr : r < 32) : (x ^^^ 2 ^ r) / 4294967296 = x / 4294967296 ∧ x ^^^ 2 ^ r ≠ x := by
  constructor
  · rw [show (4294967296 : Nat) = 2 ^ 32 from rfl, ← Nat.shiftRight_eq_div_pow, ← Nat.shiftRight_eq_div_pow, Nat.shiftRight_xor_distrib, Nat.shiftRight_eq_div_pow (2 ^ r) 32, Nat.div_eq_of_lt (Nat.pow_lt_pow_right (by decide) hr), Nat.xor_zero]
  · intro h
    have h2 := congrArg (x ^^^ ·) h
    simp only [← Nat.xor_assoc, Nat.xor_self, Nat.zero_xor] at h2
    exact absurd h2 (Nat.ne_of_gt (Nat.two_pow_pos r))

set_option maxRecDepth 100000 in
set_option maxHeartbeats 1000000 in
theorem turned_walk (w : World) (k n t b : Nat) (hk : k < 256) (hn : n < 65536) (ht : t < 65536) (hb : b < 256) (A : Option Addr) (c : Nat) (ws : List Nat) (hw : ∀ x ∈ ws, x < 18446744073709551616) (hc : ws.length ≤ c) (h0 : 0 < ws.length) (hreach : ws.length ≤ 400) (hC : (Kd.int .u64).C w A ws.length (il ws)) :
    Calls Try.prog 6 #[.int .u8 (k : Int), .int .u16 (n : Int), .slice A ws.length c, .int .u16 (t : Int), .int .u8 (b : Int)] w fun e w' => e = .returned (.bool true) ∧ Below w.heap.size w w' := by
  have HC := Lib.hid hC
  have hne : ws ≠ [] := by intro e; rw [e] at h0; exact absurd h0 (by simp)
  have HW := Lib.hid hw
  have HB := Lib.hid (Below.refl w.heap.size w)
  clear hC hw
  have hL0 : ((ws.length : Int) == 0) = false := by simp; intro e; rw [e] at h0; exact absurd h0 (by simp)
  go_enter Try.func6, Try.ntmps6
  go_wp2_with (first
    | (go_at_call 16; (with_reducible refine (alive_at HB).mono ?_); rintro e w' ⟨rfl, Hb⟩)
    | (go_at_call 21; (with_reducible refine (mark_at (by assumption) HC rfl (by assumption) (by omega) (by omega)).mono ?_); rintro e w' ⟨rfl, Hb⟩)
    | (at_builtin; refine app_lit_ints (w0 := w) .u64 23 30 8 Try.underlying23 infoU64 (by omega) rfl _ _ rfl [] (il ws) (il ws) A ws.length c ws.length 0 _ rfl rfl rfl rfl HC (by assumption) rfl (il_length ws) (by omega) ?_; intro A1 c1 w1 hl1 HC1 HR1 Hb))
  obtain ⟨g, rfl, hg, hcells, hstore⟩ := R_form HR1.out h0 (il_length ws)
  obtain ⟨j, hj⟩ : ∃ j, j = t % ws.length := ⟨_, rfl⟩
  have hjl : j < ws.length := by rw [hj]; exact Nat.mod_lt _ h0
  obtain ⟨hcell, hfr⟩ := hcells j hjl
  have hst := hstore j
  obtain ⟨wd, hwd⟩ : ∃ wd, wd = ws[j] := ⟨_, rfl⟩
  have hget : (il ws).getD j 0 = (wd : Int) := by
    have h2 := rd_il ws j hjl
    rw [← hwd] at h2
    simpa [rd] using h2
  rw [hget] at hcell
  have hji : (j : Int) < (ws.length : Int) := by omega
  have htm : Int.tmod (t : Int) (ws.length : Int) = (j : Int) := by
    rw [Int.tmod_eq_emod_of_nonneg (by omega), hj]; rfl
  have htm' : (IntKind.i64.wrap (t : Int)).tmod (ws.length : Int) = (j : Int) := by
    rw [show IntKind.i64.wrap (t : Int) = (t : Int) from IntWalk.i64_in _ (by omega)]; exact htm
  obtain ⟨q, hq⟩ : ∃ q, q = b % 64 := ⟨_, rfl⟩
  have hql : q < 64 := by rw [hq]; exact Nat.mod_lt _ (by decide)
  have hbm : Int.tmod (b : Int) 64 = (q : Int) := by rw [Int.tmod_eq_emod_of_nonneg (by omega), hq]; rfl
  have Hq := Lib.hid hq
  clear hq
  have Hst := Lib.hid hst
  have Hj := Lib.hid hj
  have Hwd := Lib.hid hwd
  have hwl : wd < 18446744073709551616 := by rw [hwd]; exact HW.out _ (List.getElem_mem hjl)
  obtain ⟨wd', hwd'⟩ : ∃ wd', wd' = wd ^^^ 2 ^ q := ⟨_, rfl⟩
  have hpq := pow_lt hql
  have hxo : bits .xor .u64 (wd : Int) (IntKind.u64.wrap (2 ^ q)) = (wd' : Int) := by
    rw [wrap_pow hql, hwd']
    exact u64_xor_nat _ _ hwl hpq
  have hwl' : wd' < 18446744073709551616 := by rw [hwd']; exact Nat.xor_lt_two_pow (n := 64) hwl hpq
  have Hwd' := Lib.hid hwd'
  obtain ⟨mk, hmk⟩ : ∃ mk, mk = mark k n ws := ⟨_, rfl⟩
  have ho := mark_open hk (by omega : n < 16777216) ws
  rw [← hmk] at ho ⊢
  have hmkl : mk < 18446744073709551616 := ho.2.2.2
  have HR2 := hst wd' hjl
  rw [show (il ws).set j (wd' : Int) = il (ws.set j wd') by simp [il, List.map_set]] at HR2
  have Hb2 := Lib.hid ((Hb.out.setCell (p := ⟨g, j, none⟩) hg (.int .u64 (wd' : Int))).drew)
  have hC2 : Hid ((Kd.int .u64).C (w1.setCell ⟨g, j, none⟩ (.int .u64 (wd' : Int))).drew (some ⟨g, 0, none⟩) ws.length (il (ws.set j wd'))) := by
    obtain ⟨A2, c2, hv, _, hC⟩ := Kd.R_reads HR2
    simp only [Value.slice.injEq] at hv
    obtain ⟨rfl, _, _⟩ := hv
    have hl : (il (ws.set j wd')).length = ws.length := by rw [il_length, List.length_set]
    rw [hl] at hC
    exact Lib.hid (Kd.C_below hC (Below.refl _ _).drew)
  have HF1 : Hid (Calls Try.prog 24 #[.int .u64 (mk : Int), .slice (some ⟨g, 0, none⟩) ws.length c1] (w1.setCell ⟨g, j, none⟩ (.int .u64 (wd' : Int))).drew fun e w' => e = .returned (.bool false) ∧ Hid (Below w.heap.size w w')) := by
    have hl : (ws.set j wd').length = ws.length := List.length_set ..
    have h := fits_any _ mk hmkl (some ⟨g, 0, none⟩) c1 (ws.set j wd') (by omega) (by rw [hl]; exact hC2.out)
    rw [hl, ho.1, ho.2.1, decide_eq_false (by rw [hmk, hwd', hwd]; exact set_turned k n ws j q hjl hql)] at h
    exact hB_at Hb2 h
  obtain ⟨r, hr⟩ : ∃ r, r = b % 32 := ⟨_, rfl⟩
  have hrl : r < 32 := by rw [hr]; exact Nat.mod_lt _ (by decide)
  have hrm : (b : Int) % 32 = (r : Int) := by rw [hr]; rfl
  obtain ⟨mk', hmk'⟩ : ∃ mk', mk' = mk ^^^ 2 ^ r := ⟨_, rfl⟩
  have hpr := pow_lt (by omega : r < 64)
  have hmkl' : mk' < 18446744073709551616 := by rw [hmk']; exact Nat.xor_lt_two_pow (n := 64) hmkl hpr
  have hxm : bits .xor .u64 (mk : Int) (IntKind.u64.wrap (2 ^ r)) = (mk' : Int) := by
    rw [wrap_pow (by omega : r < 64), hmk']
    exact u64_xor_nat _ _ hmkl hpr
  have hf2 : decide (mark (mk' / 72057594037927936) (mk' / 4294967296 % 16777216) ws = mk') = false := by
    have ht := turn_low mk r hrl
    have e1 : mk' / 72057594037927936 = k := by rw [← ho.1, hmk']; omega
    have e2 : mk' / 4294967296 % 16777216 = n := by rw [← ho.2.1, hmk', ht.1]
    rw [e1, e2, ← hmk, hmk']
    exact decide_eq_false (fun h => ht.2 h.symm)
  have HF2 := Lib.hid hf2
  have Hmk' := Lib.hid hmk'
  have Hmk := Lib.hid hmk
  have Ho := Lib.hid ho
  have Hr := Lib.hid hr
  clear hwd' hmk ho HR2 hf2 hmk' hr hpq hpr
  have Hget := Lib.hid hget
  clear hst hj hwd hget hcells hstore
  refine wp_region_still_tail 19 (by kernel_rfl) (by kernel_rfl) ?_
  simp only [List.take_succ_cons, List.take_zero, List.drop_succ_cons, List.drop_zero]
  iterate 19 still_step
  refine wpStill_nil ?_
  go_wp2_with (first
    | (go_at_call 24; (with_reducible refine HF1.out.mono ?_); rintro e w' ⟨rfl, Hb⟩)
    | (go_at_call 24; (with_reducible refine (fits_at (by assumption) HC rfl hmkl' (by omega) HF2).mono ?_); rintro e w' ⟨rfl, Hb⟩))
  go_ret
  exact ⟨rfl, Hb.out⟩

set_option maxRecDepth 100000 in
set_option maxHeartbeats 1000000 in
theorem turned_out (w : World) (k n t b : Int) (A : Option Addr) (c m : Nat) (h : m = 0 ∨ 400 < m) (hm : m ≤ 140737488351232) :
    Calls Try.prog 6 #[.int .u8 k, .int .u16 n, .slice A m c, .int .u16 t, .int .u8 b] w fun e w' => e = .returned (.bool true) ∧ Below w.heap.size w w' := by
  have HB := Lib.hid (Below.refl w.heap.size w)
  rcases h with h | h
  · subst h
    go_enter Try.func6, Try.ntmps6
    go_wp2_with (go_at_call 16; (with_reducible refine (alive_at HB).mono ?_); rintro e w' ⟨rfl, Hb⟩)
    go_ret
    exact ⟨rfl, Hb.out⟩
  · go_enter Try.func6, Try.ntmps6
    go_wp2_with (go_at_call 16; (with_reducible refine (alive_at HB).mono ?_); rintro e w' ⟨rfl, Hb⟩)
    go_ret
    exact ⟨rfl, Hb.out⟩

theorem sumsTurned_law (W : World) (x0 : Int) (w0 : (Lit.int .u8 x0).wf = true) (x1 : Int) (w1 : (Lit.int .u16 x1).wf = true) {a1 : Option Addr} {cap1 : Nat}
    (l1 : List Int) (hm1 : l1.length ≤ maxLen) (y1 : l1.length * 8 ≤ 140737488351232) (hw1 : ∀ x ∈ l1, (Lit.int .u64 x).wf = true) (hc1 : l1.length ≤ cap1) (hr1 : (Kd.int .u64).C W a1 l1.length l1)
    (x3 : Int) (w3 : (Lit.int .u16 x3).wf = true) (x4 : Int) (w4 : (Lit.int .u8 x4).wf = true) :
    Calls Try.prog 6 #[.int .u8 x0, .int .u16 x1, .slice a1 l1.length cap1, .int .u16 x3, .int .u8 x4] W fun e w' => e = .returned (.bool true) ∧ Below W.heap.size W w' := by
  by_cases hg : l1.length = 0 ∨ 400 < l1.length
  · exact turned_out W x0 x1 x3 x4 a1 cap1 _ hg (by omega)
  · obtain ⟨k, rfl, hk⟩ := nat8 w0
    obtain ⟨n, rfl, hn⟩ := nat16 w1
    obtain ⟨t, rfl, ht⟩ := nat16 w3
    obtain ⟨b, rfl, hb⟩ := nat8 w4
    have hl : (l1.map Int.toNat).length = l1.length := List.length_map _
    have h := turned_walk W k n t b hk hn ht hb a1 cap1 (l1.map Int.toNat) (words_lt l1 hw1) (by omega) (by omega) (by omega) (by rw [hl, words_il l1 hw1]; exact hr1)
    rw [hl] at h
    exact h
end Go.Proofs.Ytmeoiennniknlaa.Sums
