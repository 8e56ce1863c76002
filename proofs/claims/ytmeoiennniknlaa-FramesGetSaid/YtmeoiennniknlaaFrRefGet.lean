/- The reference's Get. -/
import Derived.Test.YtmeoiennniknlaaFrRef
namespace Go.Proofs.Ytmeoiennniknlaa.Frames
open Go.RowKit Go.Shelf Go.Proofs.YtmeoiennniknlaaW.PrintWords Go.Proofs.Ytmeoiennniknlaa.Lb Go.Proofs.Ytmeoiennniknlaa.Sums
set_option linter.unusedVariables false
set_option linter.unusedSimpArgs false

set_option maxRecDepth 100000 in
set_option maxHeartbeats 400000 in
theorem refNumber_any (w : World) (n : Int) :
    Calls Try.prog 29 #[.int .i64 n] w fun e w' => e = .returned (.bool (numB n)) ∧ w = w' := by
  unfold numB
  by_cases h1 : 0 ≤ n
  · by_cases h2 : n ≤ 4294967295
    all_goals
      go_enter Try.func29, Try.ntmps29
      go_wp2
      go_ret
      exact ⟨by simp [*] <;> omega, rfl⟩
  · go_enter Try.func29, Try.ntmps29
    go_wp2
    go_ret
    exact ⟨by simp [*] <;> omega, rfl⟩
theorem refNumber_at {w : World} {n : Int} {b : Bool} (h : Hid (numB n = b)) :
    Calls Try.prog 29 #[.int .i64 n] w fun e w' => e = .returned (.bool b) ∧ w = w' := by
  have := refNumber_any w n
  rw [h.out] at this
  exact this

set_option maxRecDepth 100000 in
set_option maxHeartbeats 1000000 in
theorem refGet_no1 (w : World) (e n : Int) (A : Option Addr) (m c : Nat) (hm : m ≤ 140737488351232) (h : m = 0 ∨ numB e = false ∨ numB n = false) :
    Calls Try.prog 35 #[.int .i64 e, .int .i64 n, .slice A m c] w (NoFr w) := by
  have hb : Hid (Below w.heap.size w (w.alloc (.cells #[.int .i64 0, .slice none 0 0] 40))) := Lib.hid ((Below.refl _ w).alloc (Nat.le_refl _) _)
  by_cases h1 : m = 0
  · subst h1
    clear h
    go_enter Try.func35, Try.ntmps35
    go_wp2
    exact bodyPost_ret (v := .tuple #[.agg #[.int .i64 0, .slice none 0 0], .int .i64 0, .bool false]) (by simp [results, Try.results35, go_sem]) rfl ⟨rfl, hb.out⟩
  · have h1b : ((m : Int) == 0) = false := by simp; exact h1
    cases h2 : numB e with
    | false =>
      have H2 := Lib.hid h2
      clear h h2
      go_enter Try.func35, Try.ntmps35
      go_wp2_with (go_at_call 29; (with_reducible refine (refNumber_at H2).mono ?_); rintro en w' ⟨rfl, rfl⟩)
      exact bodyPost_ret (v := .tuple #[.agg #[.int .i64 0, .slice none 0 0], .int .i64 0, .bool false]) (by simp [results, Try.results35, go_sem]) rfl ⟨rfl, hb.out⟩
    | true =>
      have h3 : numB n = false := by simpa [h1, h2] using h
      have H2 := Lib.hid h2
      have H3 := Lib.hid h3
      clear h h2 h3
      go_enter Try.func35, Try.ntmps35
      go_wp2_with (first
        | (go_at_call 29; (with_reducible refine (refNumber_at H2).mono ?_); rintro en w' ⟨rfl, rfl⟩)
        | (go_at_call 29; (with_reducible refine (refNumber_at H3).mono ?_); rintro en w' ⟨rfl, rfl⟩))
      exact bodyPost_ret (v := .tuple #[.agg #[.int .i64 0, .slice none 0 0], .int .i64 0, .bool false]) (by simp [results, Try.results35, go_sem]) rfl ⟨rfl, hb.out⟩

set_option maxRecDepth 100000 in
set_option maxHeartbeats 1000000 in
theorem refGet_no2 (w : World) (e n : Int) (he : numB e = true) (hn : numB n = true) (ad : Addr) (c : Nat) (x K M : Nat) (l : List Int) (hl0 : 0 < l.length) (hm : l.length * 8 ≤ 140737488351232) (hx : x < 18446744073709551616) (hK : x / 72057594037927936 = K) (hM : x / 4294967296 % 16777216 = M) (hcell : w.cell? ad = some (.int .u64 (x : Int))) (h : K = 0 ∨ 2000 < M ∨ l.length < 1 + M) :
    Calls Try.prog 35 #[.int .i64 e, .int .i64 n, .slice (some ad) l.length c] w (NoFr w) := by
  have hb : Hid (Below w.heap.size w (w.alloc (.cells #[.int .i64 0, .slice none 0 0] 40))) := Lib.hid ((Below.refl _ w).alloc (Nat.le_refl _) _)
  have hML : M < 16777216 := by omega
  have H2 := Lib.hid he
  have H3 := Lib.hid hn
  have hKi : (x : Int) / 72057594037927936 = (K : Int) := by omega
  have hMi : (x : Int) / 4294967296 % 16777216 = (M : Int) := by omega
  have h1b : ((l.length : Int) == 0) = false := by
    simp
    intro e
    rw [e] at hl0
    simp at hl0
  have hne : l ≠ [] := by intro e; rw [e] at hl0; simp at hl0
  have hlt := World.block_lt_of_cell? w _ hcell
  have hcell2 : (w.alloc (.cells #[.int .i64 0, .slice none 0 0] 40)).cell? ad = some (.int .u64 (x : Int)) := by rw [World.cell?_alloc_lt _ _ _ hlt]; exact hcell
  clear he hn hK hM
  go_enter Try.func35, Try.ntmps35
  go_wp2_with (first
    | (go_at_call 29; (with_reducible refine (refNumber_at H2).mono ?_); rintro en w' ⟨rfl, rfl⟩)
    | (go_at_call 29; (with_reducible refine (refNumber_at H3).mono ?_); rintro en w' ⟨rfl, rfl⟩))
  go_quiet (fail)
  by_cases h1 : K = 0
  · subst h1
    go_wp2
    exact bodyPost_ret (v := .tuple #[.agg #[.int .i64 0, .slice none 0 0], .int .i64 0, .bool false]) (by simp [results, Try.results35, go_sem]) rfl ⟨rfl, ((pw_below_drewN hb.out nq).setCell (Nat.le_refl _) _).setCell (Nat.le_refl _) _⟩
  · have h1c : ((K : Int) == 0) = false := by simp; exact h1
    by_cases h2 : 2000 < M
    · have h2c : (2000 : Int) < (M : Int) := by omega
      go_wp2
      exact bodyPost_ret (v := .tuple #[.agg #[.int .i64 0, .slice none 0 0], .int .i64 0, .bool false]) (by simp [results, Try.results35, go_sem]) rfl ⟨rfl, ((pw_below_drewN hb.out nq).setCell (Nat.le_refl _) _).setCell (Nat.le_refl _) _⟩
    · have h3 : l.length < 1 + M := by omega
      have h3c : (l.length : Int) < (M : Int) + 1 := by omega
      have h2c : (M : Int) ≤ 2000 := by omega
      go_wp2
      exact bodyPost_ret (v := .tuple #[.agg #[.int .i64 0, .slice none 0 0], .int .i64 0, .bool false]) (by simp [results, Try.results35, go_sem]) rfl ⟨rfl, ((pw_below_drewN hb.out nq).setCell (Nat.le_refl _) _).setCell (Nat.le_refl _) _⟩

set_option maxRecDepth 100000 in
set_option maxHeartbeats 4000000 in
theorem refGet_main (w : World) (e n : Nat) (he : e < 4294967296) (hn : n < 4294967296) (ad : Addr) (c : Nat) (x K M : Nat) (l ws : List Int) (hl : WS l) (hcap : l.length ≤ c) (hm : l.length * 8 ≤ 140737488351232) (hx : x < 18446744073709551616) (hK : x / 72057594037927936 = K) (hM : x / 4294967296 % 16777216 = M) (hcell : w.cell? ad = some (.int .u64 (x : Int)))
    (hC : (Kd.int .u64).C w (some ad) l.length l) (hfit : 1 + M ≤ l.length) (hK1 : 1 ≤ K) (hM1 : M ≤ 2000) (hws : ws = (l.take (1 + M)).drop 1) (b2 : Bool) (hb2 : (((fmark e n K ws : Nat) : Int) != (x : Int)) = b2) :
    Calls Try.prog 35 #[.int .i64 (e : Int), .int .i64 (n : Int), .slice (some ad) l.length c] w (fun en w' => (b2 = false → YesFr w K M ws en w') ∧ (b2 = true → NoFr w en w')) := by
  have hKL : K < 256 := by omega
  have H2 := Lib.hid (numB_true.2 ⟨by omega, by omega⟩ : numB (e : Int) = true)
  have H3 := Lib.hid (numB_true.2 ⟨by omega, by omega⟩ : numB (n : Int) = true)
  have HC := Lib.hid hC
  have hKi : (x : Int) / 72057594037927936 = (K : Int) := by omega
  have hMi : (x : Int) / 4294967296 % 16777216 = (M : Int) := by omega
  have hl0 : 0 < l.length := by omega
  have h1b : ((l.length : Int) == 0) = false := by
    simp
    intro e
    rw [e] at hl0
    simp at hl0
  have hne : l ≠ [] := by intro e; rw [e] at hl0; simp at hl0
  obtain ⟨i0, hi0, hsz0⟩ := info_u64
  obtain ⟨ad2, hrun, hmid⟩ := mid_ints (P := Try.prog) 23 30 .u64 Try.underlying23 hi0 hsz0 ad c l 1 (1 + M) (by omega) hfit hcap
  have hwsl : ws.length = 1 + M - 1 := by rw [hws, List.length_drop, List.length_take]; omega
  have hrun' : ∀ W : World, (Instr.slice 23 (.slice (some ad) l.length c) (some (.int .i64 1)) (some (.int .i64 (1 + (M : Int)))) none).run Try.prog W = .ok (.slice (some ad2) ws.length (c - 1)) W := by
    intro W
    have h := hrun W
    rw [show ((1 + M : Nat) : Int) = 1 + (M : Int) by omega, ← hwsl] at h
    exact h
  have HMid : Hid (∀ w : World, (Kd.int .u64).C w (some ad) l.length l → (Kd.int .u64).C w (some ad2) ws.length ws) := by
    intro w h
    have h2 := hmid w h
    rw [← hwsl, ← hws] at h2
    exact h2
  have hwsl' : ws.length = M := by omega
  have HWS : Hid (WS ws) := by
    intro y hy
    rw [hws] at hy
    exact hl y (List.mem_of_mem_take (List.mem_of_mem_drop hy))
  have Hb2 := Lib.hid hb2
  have Hwsl := Lib.hid hwsl'
  have h1c : ((K : Int) == 0) = false := by simp; omega
  have h2c : (M : Int) ≤ 2000 := by omega
  have h3c : (M : Int) + 1 ≤ (l.length : Int) := by omega
  have HB := Lib.hid ((Below.refl w.heap.size w).alloc (Nat.le_refl _) (.cells #[.int .i64 0, .slice none 0 0] 40))
  have hlt := World.block_lt_of_cell? w _ hcell
  have hcell2 : (w.alloc (.cells #[.int .i64 0, .slice none 0 0] 40)).cell? ad = some (.int .u64 (x : Int)) := by rw [World.cell?_alloc_lt _ _ _ hlt]; exact hcell
  clear hK hM hl hC hrun hmid hwsl hws hwsl' hb2 hi0 hsz0
  go_enter Try.func35, Try.ntmps35
  go_wp2_with (first
    | (go_at_call 29; (with_reducible refine (refNumber_at H2).mono ?_); rintro en w' ⟨rfl, rfl⟩)
    | (go_at_call 29; (with_reducible refine (refNumber_at H3).mono ?_); rintro en w' ⟨rfl, rfl⟩))
  go_quiet (fail)
  obtain ⟨W1, hW1⟩ : ∃ W1, W1 = (w.alloc (.cells #[.int .i64 0, .slice none 0 0] 40)).drewN nq := ⟨_, rfl⟩
  rw [← hW1]
  have HB1 : Hid (Below (w.heap.size + 1) (w.alloc (.cells #[.int .i64 0, .slice none 0 0] 40)) W1) := by rw [hW1]; exact Lib.hid (pw_below_drewN (Below.refl _ _) _)
  have hsz1 : w.heap.size < W1.heap.size := by have := HB1.out.size; simp at this; omega
  have HBW : Hid (Below w.heap.size w W1) := Lib.hid (HB.out.trans (HB1.out.mono (by omega)))
  have HCW := Lib.hid (Kd.C_below HC.out HBW.out)
  have HCA := Lib.hid (HMid.out _ HCW.out)
  have HBA := Lib.hid (Below.refl W1.heap.size W1)
  have t2 : W1.cell? ad = some (.int .u64 (x : Int)) := (HB1.out.cell (by omega)).trans hcell2
  have s0 : W1.cell? ⟨w.heap.size, 0, none⟩ = some (.int .i64 0) := (HB1.out.cell (p := ⟨w.heap.size, 0, none⟩) (by simp)).trans (by simp [go_sem])
  have s1 : W1.cell? ⟨w.heap.size, 1, none⟩ = some (.slice none 0 0) := (HB1.out.cell (p := ⟨w.heap.size, 1, none⟩) (by simp)).trans (by simp [go_sem])
  have r0 : W1.frozen? ⟨w.heap.size, 0, none⟩ = false := (HB1.out.frozen (p := ⟨w.heap.size, 0, none⟩) (by simp)).trans (by simp [go_sem])
  have r1 : W1.frozen? ⟨w.heap.size, 1, none⟩ = false := (HB1.out.frozen (p := ⟨w.heap.size, 1, none⟩) (by simp)).trans (by simp [go_sem])
  clear hW1 HB1 HB hcell2
  go_wp2_with (at_builtin; go_loud (refine app_lit_ints (w0 := W1) .u64 23 30 8 Try.underlying23 infoU64 (by omega) rfl _ _ rfl [] ws ws (some ad2) ws.length (c - 1) ws.length 0 _ rfl rfl rfl rfl HCA HBA rfl rfl (by have := Hwsl.out; omega) ?_; intro A1 c1 w1 hl1 HC1 HR1 Hb))
  obtain ⟨W2, hW2⟩ : ∃ W2, W2 = w1.alloc (.cells #[.int .i64 (K : Int), .slice A1 ws.length c1] 40) := ⟨_, rfl⟩
  have q0 : W2.cell? ⟨w1.heap.size, 0, none⟩ = some (.int .i64 (K : Int)) := by rw [hW2]; simp [go_sem]
  have q1 : W2.cell? ⟨w1.heap.size, 1, none⟩ = some (.slice A1 ws.length c1) := by rw [hW2]; simp [go_sem]
  have hsz2 : w.heap.size < w1.heap.size := Nat.lt_of_lt_of_le hsz1 Hb.out.size
  have hsz3 : w1.heap.size < W2.heap.size := by rw [hW2]; simp
  have HB2 : Hid (Below W1.heap.size W1 W2) := by rw [hW2]; exact Lib.hid (Hb.out.alloc Hb.out.size _)
  have q2 : W2.cell? ad = some (.int .u64 (x : Int)) := (HB2.out.cell (by omega)).trans t2
  have z0 := (HB2.out.cell (p := ⟨w.heap.size, 0, none⟩) hsz1).trans s0
  have z1 := (HB2.out.cell (p := ⟨w.heap.size, 1, none⟩) hsz1).trans s1
  have f0 := (HB2.out.frozen (p := ⟨w.heap.size, 0, none⟩) hsz1).trans r0
  have f1 := (HB2.out.frozen (p := ⟨w.heap.size, 1, none⟩) hsz1).trans r1
  have HB3 : Hid (Below w.heap.size w W2) := Lib.hid (HBW.out.trans (HB2.out.mono (Nat.le_of_lt hsz1)))
  have HC2 : Hid ((Kd.int .u64).C W2 A1 ws.length ws) := by rw [hW2]; exact Lib.hid (Kd.C_below HC1.out ((Below.refl _ _).alloc (Nat.le_refl _) _))
  have HR2 : Hid ((Kd.int .u64).R 30 W2 (w.heap.size + 1) (fun _ => True) (.slice A1 ws.length c1) ws) := by rw [hW2]; exact Lib.hid (Kd.R_below (Kd.R_lower HR1.out (Nat.succ_le_of_lt hsz1)) ((Below.refl _ _).alloc (Nat.le_refl _) _))
  rw [← hW2]
  have had : ad.block < W2.heap.size := by have := HB2.out.size; omega
  have Hput := Lib.hid (fun W (hW : Hid (Below W2.heap.size W2 W)) => refPut_any W e n K he hn hKL A1 c1 ws HWS.out (by rw [Hwsl.out]; exact hM1) (Kd.C_below HC2.out hW.out))
  have hpos : (0 : Int) < (ws.length : Int) + 1 := by omega
  clear hW2 HC1 HR1 Hb HBA HCA HCW s0 s1 r0 r1 t2
  refine wp_region_held_drew (S := fun w' => w'.cell? ⟨w1.heap.size, 0, none⟩ = some (.int .i64 (K : Int)) ∧ w'.cell? ⟨w1.heap.size, 1, none⟩ = some (.slice A1 ws.length c1) ∧ w'.cell? ad = some (.int .u64 (x : Int))) (by kernel_rfl) (by go_keep) (fun hHeld => ?_)
  refine Held.take_val (i := 0) (some 59) (.int .i64 (e : Int)) rfl (by rfl) (by kernel_rfl) (by kernel_rfl) (by kernel_rfl) (fun _ _ _ h => h) (fun w hSw => (by (try dsimp only at hSw); go_simp)) hHeld ?_
  (try simp only [Act.put, List.setIfInBounds_toArray, List.set_cons_zero, List.set_cons_succ])
  refine Held.take_val (i := 1) (some 60) (.int .i64 (n : Int)) rfl (by rfl) (by kernel_rfl) (by kernel_rfl) (by kernel_rfl) (fun _ _ _ h => h) (fun w hSw => (by (try dsimp only at hSw); go_simp)) hHeld ?_
  (try simp only [Act.put, List.setIfInBounds_toArray, List.set_cons_zero, List.set_cons_succ])
  refine Held.take_val (i := 2) (some 61) (.agg #[.int .i64 (K : Int), .slice A1 ws.length c1]) rfl (by rfl) (by kernel_rfl) (by kernel_rfl) (by kernel_rfl) (fun _ _ _ h => h) (fun w hSw => (by (try dsimp only at hSw); go_simp)) hHeld ?_
  (try simp only [Act.put, List.setIfInBounds_toArray, List.set_cons_zero, List.set_cons_succ])
  refine Held.take_val (i := 6) (some 65) (.slice (some ad) l.length c) rfl (by rfl) (by kernel_rfl) (by kernel_rfl) (by kernel_rfl) (fun _ _ _ h => h) (fun w hSw => (by (try dsimp only at hSw); go_simp)) hHeld ?_
  (try simp only [Act.put, List.setIfInBounds_toArray, List.set_cons_zero, List.set_cons_succ])
  refine Held.take_val (i := 7) (some 66) (.pointer (some ad)) rfl (by rfl) (by kernel_rfl) (by kernel_rfl) (by kernel_rfl) (fun _ _ _ h => h) (fun w hSw => (by (try dsimp only at hSw); go_simp)) hHeld ?_
  (try simp only [Act.put, List.setIfInBounds_toArray, List.set_cons_zero, List.set_cons_succ])
  refine Held.take_val (i := 8) (some 67) (.int .u64 (x : Int)) rfl (by rfl) (by kernel_rfl) (by kernel_rfl) (by kernel_rfl) (fun _ _ _ h => h) (fun w hSw => (by (try dsimp only at hSw); go_simp)) hHeld ?_
  (try simp only [Act.put, List.setIfInBounds_toArray, List.set_cons_zero, List.set_cons_succ])
  refine Held.one_ready (i := 3) (by kernel_rfl) (AllReadyH.cons rfl (fun K' hK' => ?_) AllReadyH.nil)
  rw [if_pos (by rfl)]
  go_simp
  go_at_call 33; refine (Hput.out _ (Lib.hid (Below.refl W2.heap.size W2).drew)).mono ?_; rintro en w2 ⟨A2, c2, rfl, hl2, hC2, hR2, hb2⟩; obtain ⟨ad3, rfl, u0⟩ := C_cell hC2 0 (Nat.succ_pos _); have u1 : w2.cell? ad3 = some (.int .u64 ((fmark e n K ws : Nat) : Int)) := (by simpa [Addr.add] using u0); clear u0 hC2 hR2; have k0 := (hb2.cell (p := ⟨w1.heap.size, 0, none⟩) hsz3).trans q0; have k1 := (hb2.cell (p := ⟨w1.heap.size, 1, none⟩) hsz3).trans q1; have k2 := (hb2.cell (p := ad) had).trans q2; have HB5 := Lib.hid ((Below.refl W2.heap.size W2).drew.trans hb2); clear hb2
  refine hK'.out _ _ ⟨k0, k1, k2⟩ (fun hHeld2 => ?_)
  clear hK' K' hHeld
  (try simp only [Act.put, List.setIfInBounds_toArray, List.set_cons_zero, List.set_cons_succ])
  refine Held.take_val (i := 4) (some 63) (.pointer (some ad3)) rfl (by rfl) (by kernel_rfl) (by kernel_rfl) (by kernel_rfl) (fun _ _ _ h => h) (fun w hSw => (by (try dsimp only at hSw); go_simp)) hHeld2 ?_
  (try simp only [Act.put, List.setIfInBounds_toArray, List.set_cons_zero, List.set_cons_succ])
  refine Held.one_ready (i := 5) (by kernel_rfl) (AllReadyH.cons rfl (fun K' hK' => ?_) AllReadyH.nil)
  rw [if_pos (by rfl)]
  go_simp
  refine hK'.out _ _ ⟨k0, k1, k2⟩ (fun hHeld3 => ?_)
  clear hK' K' hHeld2
  (try simp only [Act.put, List.setIfInBounds_toArray, List.set_cons_zero, List.set_cons_succ])
  refine Held.take_val (i := 9) (some 68) (.bool (((fmark e n K ws : Nat) : Int) != (x : Int))) rfl (by rfl) (by kernel_rfl) (by kernel_rfl) (by kernel_rfl) (fun _ _ _ h => h) (fun w hSw => (by (try dsimp only at hSw); go_simp)) hHeld3 ?_
  (try simp only [Act.put, List.setIfInBounds_toArray, List.set_cons_zero, List.set_cons_succ])
  refine wpAnyH_done (by kernel_rfl) ?_ _
  have HB7 : Hid (Below w.heap.size w w2) := Lib.hid (HB3.out.trans (HB5.out.mono (by simpa using HB3.out.size)))
  have y0 := (HB5.out.cell (p := ⟨w.heap.size, 0, none⟩) (Nat.lt_trans hsz2 hsz3)).trans z0
  have y1 := (HB5.out.cell (p := ⟨w.heap.size, 1, none⟩) (Nat.lt_trans hsz2 hsz3)).trans z1
  have g0 := (HB5.out.frozen (p := ⟨w.heap.size, 0, none⟩) (Nat.lt_trans hsz2 hsz3)).trans f0
  have g1 := (HB5.out.frozen (p := ⟨w.heap.size, 1, none⟩) (Nat.lt_trans hsz2 hsz3)).trans f1
  clear q0 q1 q2 z0 z1 f0 f1 k0 k1 k2
  cases b2 with
  | true =>
    have e2 := Hb2.out
    have HN : NoFr w (.returned (.tuple #[.agg #[.int .i64 0, .slice none 0 0], .int .i64 0, .bool false])) ((w2.setCell ⟨w.heap.size, 0, none⟩ (.int .i64 0)).setCell ⟨w.heap.size, 1, none⟩ (.slice none 0 0)) := ⟨rfl, (HB7.out.setCell (Nat.le_refl _) _).setCell (Nat.le_refl _) _⟩
    go_wp2
    exact bodyPost_ret (v := .tuple #[.agg #[.int .i64 0, .slice none 0 0], .int .i64 0, .bool false]) (by simp [results, Try.results35, go_sem, y0, y1]) rfl HN
  | false =>
    have e2 := Hb2.out
    have HR3 : Hid ((Kd.int .u64).R 30 w2 (w.heap.size + 1) (fun _ => True) (.slice A1 ws.length c1) ws) := Lib.hid (Kd.R_below HR2.out HB5.out)
    have HR4 := Lib.hid (R_past (R_past HR3.out 0 (.int .i64 (K : Int))) 1 (.slice A1 ws.length c1))
    have HB8 := Lib.hid ((HB7.out.setCell (p := ⟨w.heap.size, 0, none⟩) (Nat.le_refl _) (.int .i64 (K : Int))).setCell (p := ⟨w.heap.size, 1, none⟩) (Nat.le_refl _) (.slice A1 ws.length c1))
    go_wp2
    exact bodyPost_ret (v := .tuple #[.agg #[.int .i64 (K : Int), .slice A1 ws.length c1], .int .i64 ((1 + M : Nat) : Int), .bool true]) (by simp [results, Try.results35, go_sem, y0, y1, Int.add_comm]) rfl
      ⟨A1, c1, rfl, hl1, (Kd.R_reads' HR4.out).2.2, Kd.R_lower HR4.out (by omega), HB8.out⟩

theorem refGet_any (w : World) (e n : Int) (A : Option Addr) (c : Nat) (l : List Int) (hl : WS l) (hm : l.length * 8 ≤ 140737488351232) (hc : l.length ≤ c) (hC : (Kd.int .u64).C w A l.length l) :
    Calls Try.prog 35 #[.int .i64 e, .int .i64 n, .slice A l.length c] w (GetP w (getR e n l)) := by
  by_cases h : l.length = 0 ∨ numB e = false ∨ numB n = false
  · rw [getR_none h]
    exact refGet_no1 w e n A l.length c (by omega) h
  · have hl0 : 0 < l.length := by
      rcases Nat.eq_zero_or_pos l.length with h0 | h0
      · exact absurd (Or.inl h0) h
      · exact h0
    have he : numB e = true := by
      cases h1 : numB e with
      | true => rfl
      | false => exact absurd (Or.inr (Or.inl h1)) h
    have hn : numB n = true := by
      cases h1 : numB n with
      | true => rfl
      | false => exact absurd (Or.inr (Or.inr h1)) h
    obtain ⟨ad, rfl, hcell⟩ := C_cell hC 0 hl0
    obtain ⟨x, hx⟩ : ∃ x : Nat, (l.getD 0 0).toNat = x := ⟨_, rfl⟩
    have h0 : l.getD 0 0 = l[0] := by simp [List.getD_eq_getElem?_getD, hl0]
    have hb := hl l[0] (List.getElem_mem hl0)
    have hx2 : (l[0] : Int) = (x : Int) := by rw [← hx, h0]; omega
    have hxl : x < 18446744073709551616 := by omega
    rw [hx2] at hcell
    have hcell : w.cell? ad = some (.int .u64 (x : Int)) := by simpa [Addr.add] using hcell
    obtain ⟨K, hK⟩ : ∃ K, x / 72057594037927936 = K := ⟨_, rfl⟩
    obtain ⟨M, hM⟩ : ∃ M, x / 4294967296 % 16777216 = M := ⟨_, rfl⟩
    obtain ⟨ws, hws⟩ : ∃ ws, (l.take (1 + M)).drop 1 = ws := ⟨_, rfl⟩
    rw [getR_some h hx hK hM hws]
    have hKL : K < 256 := by omega
    by_cases h2 : K = 0 ∨ 2000 < M ∨ l.length < 1 + M
    · rw [if_pos]
      · exact refGet_no2 w e n he hn ad c x K M l hl0 hm hxl hK hM hcell h2
      · by_cases h3 : l.length < 1 + M
        · exact Or.inl h3
        · refine Or.inr (Or.inl ?_)
          cases h4 : mayB (K : Int) M with
          | false => rfl
          | true => have := mayB_true.1 h4; omega
    · obtain ⟨e1, e2⟩ := numB_true.1 he
      obtain ⟨n1, n2⟩ := numB_true.1 hn
      have ee : ((e.toNat : Nat) : Int) = e := by omega
      have en : ((n.toNat : Nat) : Int) = n := by omega
      have hmay : mayB (K : Int) M = true := mayB_true.2 (by omega)
      have H := refGet_main w e.toNat n.toNat (by omega) (by omega) ad c x K M l ws hl hc hm hxl hK hM hcell hC (by omega) (by omega) (by omega) hws.symm (((fmark e.toNat n.toNat K ws : Nat) : Int) != (x : Int)) rfl
      rw [ee, en] at H
      refine H.mono fun en w' ⟨h3, h4⟩ => ?_
      by_cases h5 : fmark e.toNat n.toNat K ws = x
      · rw [if_neg]
        · exact h3 (by rw [h5]; simp)
        · rintro (h6 | h6 | h6)
          · omega
          · rw [hmay] at h6; cases h6
          · exact h6 h5
      · rw [if_pos (Or.inr (Or.inr h5))]
        exact h4 (by simp; omega)
end Go.Proofs.Ytmeoiennniknlaa.Frames
