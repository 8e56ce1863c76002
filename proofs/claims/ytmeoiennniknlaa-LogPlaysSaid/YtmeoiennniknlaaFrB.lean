/- The reference's Put. The reference's Get. The reference's Same at equal lists; Words at equal lists; great; alive; ref May. -/
import Derived.Test.YtmeoiennniknlaaFrA
import Derived.Deep.LoopGhost
namespace Go.Proofs.Ytmeoiennniknlaa.Frames
open Go.RowKit Go.Shelf Go.Proofs.YtmeoiennniknlaaW.PrintWords Go.Proofs.Ytmeoiennniknlaa.Lb Go.Proofs.Ytmeoiennniknlaa.Sums
set_option linter.unusedVariables false
set_option linter.unusedSimpArgs false

set_option maxRecDepth 100000 in
set_option maxHeartbeats 1000000 in
theorem refPut_any (w : World) (e n k : Nat) (he : e < 4294967296) (hn : n < 4294967296) (hk : k < 256) (A : Option Addr) (c : Nat) (l : List Int) (hl : WS l) (hlen : l.length ≤ 2000) (hC : (Kd.int .u64).C w A l.length l) :
    Calls Try.prog 33 #[.int .i64 (e : Int), .int .i64 (n : Int), .agg #[.int .i64 (k : Int), .slice A l.length c]] w fun en w' => ∃ A1 c1, en = .returned (.slice A1 (l.length + 1) c1) ∧ l.length + 1 ≤ c1 ∧
      (Kd.int .u64).C w' A1 (l.length + 1) (((fmark e n k l : Nat) : Int) :: l) ∧ (Kd.int .u64).R 30 w' w.heap.size (fun _ => True) (.slice A1 (l.length + 1) c1) (((fmark e n k l : Nat) : Int) :: l) ∧ Below w.heap.size w w' := by
  have HL := Lib.hid hl
  have Hf : Hid (fmark e n k l = Sums.mark k l.length (e :: n :: l.map Int.toNat)) := rfl
  obtain ⟨f, hf⟩ : ∃ f, f = fmark e n k l := ⟨_, rfl⟩
  rw [← hf] at Hf ⊢
  have HB0 : Hid (Below w.heap.size w (w.alloc (.cells #[.int .i64 (k : Int), .slice A l.length c] 40))) := Lib.hid ((Below.refl w.heap.size w).alloc (Nat.le_refl _) _)
  have HC := Lib.hid (Kd.C_below hC HB0.out)
  have HBR := Lib.hid (Below.refl (w.alloc (.cells #[.int .i64 (k : Int), .slice A l.length c] 40)).heap.size (w.alloc (.cells #[.int .i64 (k : Int), .slice A l.length c] 40)))
  have hs0 : w.heap.size < (w.alloc (.cells #[.int .i64 (k : Int), .slice A l.length c] 40)).heap.size := by simp
  have p0 : (w.alloc (.cells #[.int .i64 (k : Int), .slice A l.length c] 40)).cell? ⟨w.heap.size, 0, none⟩ = some (.int .i64 (k : Int)) := by simp [go_sem]
  have p1 : (w.alloc (.cells #[.int .i64 (k : Int), .slice A l.length c] 40)).cell? ⟨w.heap.size, 1, none⟩ = some (.slice A l.length c) := by simp [go_sem]
  have Hl2 := Lib.hid (show (l.map Int.toNat).length = l.length from List.length_map _)
  clear hC hl hf
  go_enter Try.func33, Try.ntmps33
  go_wp2_with (first
    | (at_builtin; refine app_lit_ints (w0 := (w.alloc (.cells #[.int .i64 (k : Int), .slice A l.length c] 40))) .u64 23 30 8 Try.underlying23 infoU64 (by omega) rfl _ _ rfl [(e : Int), (n : Int)] l (il (e :: n :: l.map Int.toNat)) A l.length c (l.length + 1 + 1) 2 _ rfl rfl (by simp [go_sem]) rfl HC HBR (by rw [il_cons, il_cons, HL.out.il]; rfl) (by simp [il]) (by omega) ?_; intro A1 c1 w1 hl1 HC1 HR1 Hb; have q0 := (Hb.out.cell (p := ⟨w.heap.size, 0, none⟩) hs0).trans p0; have q1 := (Hb.out.cell (p := ⟨w.heap.size, 1, none⟩) hs0).trans p1)
    | (go_at_call 22; (with_reducible refine (refMark_at (w := w1) (ws := e :: n :: l.map Int.toNat) (Lib.hid (Below.refl _ _)) ?_ ?_ ?_ ?_ ?_ ?_ ?_).mono ?_); rotate_right; rw [← Hf.out]; rintro en w2 ⟨rfl, Hb2⟩; have Hb3 := Lib.hid (Hb.out.trans (Hb2.out.mono Hb.out.size)); have hs2 := Nat.lt_of_lt_of_le hs0 Hb3.out.size; have q2 := (Hb3.out.cell (p := ⟨w.heap.size, 1, none⟩) hs0).trans p1)
    | (at_builtin; refine app_lit_ints (w0 := (w.alloc (.cells #[.int .i64 (k : Int), .slice A l.length c] 40))) .u64 23 30 8 Try.underlying23 infoU64 (by omega) rfl _ _ rfl [(f : Int)] l ((f : Int) :: l) A l.length c (l.length + 1) 1 _ rfl rfl rfl rfl HC Hb3 rfl (by simp) (by omega) ?_; intro A2 c2 w3 hl3 HC2 HR2 Hb4))
  case refine_1 => rw [List.length_cons, List.length_cons, Hl2.out]; exact HC1
  case refine_2 => exact Lib.hid (fun x hx => by
    rcases List.mem_cons.1 hx with rfl | hx
    · omega
    rcases List.mem_cons.1 hx with rfl | hx
    · omega
    exact HL.out.nat x hx)
  case refine_3 => rw [List.length_cons, List.length_cons, Hl2.out]
  case refine_4 => exact hk
  case refine_5 => omega
  case refine_6 => rw [List.length_cons, List.length_cons, Hl2.out]; omega
  case refine_7 => rw [List.length_cons, List.length_cons, Hl2.out]; omega
  · go_ret
    exact ⟨A2, c2, rfl, hl3, HC2.out, Kd.R_lower HR2.out (Nat.le_of_lt hs0), HB0.out.trans (Hb4.out.mono (Nat.le_of_lt hs0))⟩
end Go.Proofs.Ytmeoiennniknlaa.Frames

namespace Go.Proofs.Ytmeoiennniknlaa.Frames
open Go.RowKit Go.Shelf Go.Proofs.YtmeoiennniknlaaW.PrintWords Go.Proofs.Ytmeoiennniknlaa.Lb Go.Proofs.Ytmeoiennniknlaa.Sums
set_option linter.unusedVariables false
set_option linter.unusedSimpArgs false

set_option maxRecDepth 100000 in
set_option maxHeartbeats 400000 in
theorem refNumber_any (w : World) (n : Int) :
    Calls Try.prog 29 #[.int .i64 n] w fun e w' => e = .returned (.bool (numB n)) ∧ w = w' := by
  unfold numB
  by_cases h1 : 0 ≤ n
  · by_cases h2 : n ≤ 4294967295
    all_goals
      go_enter Try.func29, Try.ntmps29
      go_wp2
      go_ret
      exact ⟨by simp [*] <;> omega, rfl⟩
  · go_enter Try.func29, Try.ntmps29
    go_wp2
    go_ret
    exact ⟨by simp [*] <;> omega, rfl⟩
theorem refNumber_at {w : World} {n : Int} {b : Bool} (h : Hid (numB n = b)) :
    Calls Try.prog 29 #[.int .i64 n] w fun e w' => e = .returned (.bool b) ∧ w = w' := by
  have := refNumber_any w n
  rw [h.out] at this
  exact this

set_option maxRecDepth 100000 in
set_option maxHeartbeats 1000000 in
theorem refGet_no1 (w : World) (e n : Int) (A : Option Addr) (m c : Nat) (hm : m ≤ 140737488351232) (h : m = 0 ∨ numB e = false ∨ numB n = false) :
    Calls Try.prog 35 #[.int .i64 e, .int .i64 n, .slice A m c] w (NoFr w) := by
  have hb : Hid (Below w.heap.size w (w.alloc (.cells #[.int .i64 0, .slice none 0 0] 40))) := Lib.hid ((Below.refl _ w).alloc (Nat.le_refl _) _)
  by_cases h1 : m = 0
  · subst h1
    clear h
    go_enter Try.func35, Try.ntmps35
    go_wp2
    exact bodyPost_ret (v := .tuple #[.agg #[.int .i64 0, .slice none 0 0], .int .i64 0, .bool false]) (by simp [results, Try.results35, go_sem]) rfl ⟨rfl, hb.out⟩
  · have h1b : ((m : Int) == 0) = false := by simp; exact h1
    cases h2 : numB e with
    | false =>
      have H2 := Lib.hid h2
      clear h h2
      go_enter Try.func35, Try.ntmps35
      go_wp2_with (go_at_call 29; (with_reducible refine (refNumber_at H2).mono ?_); rintro en w' ⟨rfl, rfl⟩)
      exact bodyPost_ret (v := .tuple #[.agg #[.int .i64 0, .slice none 0 0], .int .i64 0, .bool false]) (by simp [results, Try.results35, go_sem]) rfl ⟨rfl, hb.out⟩
    | true =>
      have h3 : numB n = false := by simpa [h1, h2] using h
      have H2 := Lib.hid h2
      have H3 := Lib.hid h3
      clear h h2 h3
      go_enter Try.func35, Try.ntmps35
      go_wp2_with (first
        | (go_at_call 29; (with_reducible refine (refNumber_at H2).mono ?_); rintro en w' ⟨rfl, rfl⟩)
        | (go_at_call 29; (with_reducible refine (refNumber_at H3).mono ?_); rintro en w' ⟨rfl, rfl⟩))
      exact bodyPost_ret (v := .tuple #[.agg #[.int .i64 0, .slice none 0 0], .int .i64 0, .bool false]) (by simp [results, Try.results35, go_sem]) rfl ⟨rfl, hb.out⟩

set_option maxRecDepth 100000 in
set_option maxHeartbeats 1000000 in
theorem refGet_no2 (w : World) (e n : Int) (he : numB e = true) (hn : numB n = true) (ad : Addr) (c : Nat) (x K M : Nat) (l : List Int) (hl0 : 0 < l.length) (hm : l.length * 8 ≤ 140737488351232) (hx : x < 18446744073709551616) (hK : x / 72057594037927936 = K) (hM : x / 4294967296 % 16777216 = M) (hcell : w.cell? ad = some (.int .u64 (x : Int))) (h : K = 0 ∨ 2000 < M ∨ l.length < 1 + M) :
    Calls Try.prog 35 #[.int .i64 e, .int .i64 n, .slice (some ad) l.length c] w (NoFr w) := by
  have hb : Hid (Below w.heap.size w (w.alloc (.cells #[.int .i64 0, .slice none 0 0] 40))) := Lib.hid ((Below.refl _ w).alloc (Nat.le_refl _) _)
  have hML : M < 16777216 := by omega
  have H2 := Lib.hid he
  have H3 := Lib.hid hn
  have hKi : (x : Int) / 72057594037927936 = (K : Int) := by omega
  have hMi : (x : Int) / 4294967296 % 16777216 = (M : Int) := by omega
  have h1b : ((l.length : Int) == 0) = false := by
    simp
    intro e
    rw [e] at hl0
    simp at hl0
  have hne : l ≠ [] := by intro e; rw [e] at hl0; simp at hl0
  have hlt := World.block_lt_of_cell? w _ hcell
  have hcell2 : (w.alloc (.cells #[.int .i64 0, .slice none 0 0] 40)).cell? ad = some (.int .u64 (x : Int)) := by rw [World.cell?_alloc_lt _ _ _ hlt]; exact hcell
  clear he hn hK hM
  go_enter Try.func35, Try.ntmps35
  go_wp2_with (first
    | (go_at_call 29; (with_reducible refine (refNumber_at H2).mono ?_); rintro en w' ⟨rfl, rfl⟩)
    | (go_at_call 29; (with_reducible refine (refNumber_at H3).mono ?_); rintro en w' ⟨rfl, rfl⟩))
  go_quiet (fail)
  by_cases h1 : K = 0
  · subst h1
    go_wp2
    exact bodyPost_ret (v := .tuple #[.agg #[.int .i64 0, .slice none 0 0], .int .i64 0, .bool false]) (by simp [results, Try.results35, go_sem]) rfl ⟨rfl, ((pw_below_drewN hb.out nq).setCell (Nat.le_refl _) _).setCell (Nat.le_refl _) _⟩
  · have h1c : ((K : Int) == 0) = false := by simp; exact h1
    by_cases h2 : 2000 < M
    · have h2c : (2000 : Int) < (M : Int) := by omega
      go_wp2
      exact bodyPost_ret (v := .tuple #[.agg #[.int .i64 0, .slice none 0 0], .int .i64 0, .bool false]) (by simp [results, Try.results35, go_sem]) rfl ⟨rfl, ((pw_below_drewN hb.out nq).setCell (Nat.le_refl _) _).setCell (Nat.le_refl _) _⟩
    · have h3 : l.length < 1 + M := by omega
      have h3c : (l.length : Int) < (M : Int) + 1 := by omega
      have h2c : (M : Int) ≤ 2000 := by omega
      go_wp2
      exact bodyPost_ret (v := .tuple #[.agg #[.int .i64 0, .slice none 0 0], .int .i64 0, .bool false]) (by simp [results, Try.results35, go_sem]) rfl ⟨rfl, ((pw_below_drewN hb.out nq).setCell (Nat.le_refl _) _).setCell (Nat.le_refl _) _⟩

set_option maxRecDepth 100000 in
set_option maxHeartbeats 4000000 in
theorem refGet_main (w : World) (e n : Nat) (he : e < 4294967296) (hn : n < 4294967296) (ad : Addr) (c : Nat) (x K M : Nat) (l ws : List Int) (hl : WS l) (hcap : l.length ≤ c) (hm : l.length * 8 ≤ 140737488351232) (hx : x < 18446744073709551616) (hK : x / 72057594037927936 = K) (hM : x / 4294967296 % 16777216 = M) (hcell : w.cell? ad = some (.int .u64 (x : Int)))
    (hC : (Kd.int .u64).C w (some ad) l.length l) (hfit : 1 + M ≤ l.length) (hK1 : 1 ≤ K) (hM1 : M ≤ 2000) (hws : ws = (l.take (1 + M)).drop 1) (b2 : Bool) (hb2 : (((fmark e n K ws : Nat) : Int) != (x : Int)) = b2) :
    Calls Try.prog 35 #[.int .i64 (e : Int), .int .i64 (n : Int), .slice (some ad) l.length c] w (fun en w' => (b2 = false → YesFr w K M ws en w') ∧ (b2 = true → NoFr w en w')) := by
  have hKL : K < 256 := by omega
  have H2 := Lib.hid (numB_true.2 ⟨by omega, by omega⟩ : numB (e : Int) = true)
  have H3 := Lib.hid (numB_true.2 ⟨by omega, by omega⟩ : numB (n : Int) = true)
  have HC := Lib.hid hC
  have hKi : (x : Int) / 72057594037927936 = (K : Int) := by omega
  have hMi : (x : Int) / 4294967296 % 16777216 = (M : Int) := by omega
  have hl0 : 0 < l.length := by omega
  have h1b : ((l.length : Int) == 0) = false := by
    simp
    intro e
    rw [e] at hl0
    simp at hl0
  have hne : l ≠ [] := by intro e; rw [e] at hl0; simp at hl0
  obtain ⟨i0, hi0, hsz0⟩ := info_u64
  obtain ⟨ad2, hrun, hmid⟩ := mid_ints (P := Try.prog) 23 30 .u64 Try.underlying23 hi0 hsz0 ad c l 1 (1 + M) (by omega) hfit hcap
  have hwsl : ws.length = 1 + M - 1 := by rw [hws, List.length_drop, List.length_take]; omega
  have hrun' : ∀ W : World, (Instr.slice 23 (.slice (some ad) l.length c) (some (.int .i64 1)) (some (.int .i64 (1 + (M : Int)))) none).run Try.prog W = .ok (.slice (some ad2) ws.length (c - 1)) W := by
    intro W
    have h := hrun W
    rw [show ((1 + M : Nat) : Int) = 1 + (M : Int) by omega, ← hwsl] at h
    exact h
  have HMid : Hid (∀ w : World, (Kd.int .u64).C w (some ad) l.length l → (Kd.int .u64).C w (some ad2) ws.length ws) := by
    intro w h
    have h2 := hmid w h
    rw [← hwsl, ← hws] at h2
    exact h2
  have hwsl' : ws.length = M := by omega
  have HWS : Hid (WS ws) := by
    intro y hy
    rw [hws] at hy
    exact hl y (List.mem_of_mem_take (List.mem_of_mem_drop hy))
  have Hb2 := Lib.hid hb2
  have Hwsl := Lib.hid hwsl'
  have h1c : ((K : Int) == 0) = false := by simp; omega
  have h2c : (M : Int) ≤ 2000 := by omega
  have h3c : (M : Int) + 1 ≤ (l.length : Int) := by omega
  have HB := Lib.hid ((Below.refl w.heap.size w).alloc (Nat.le_refl _) (.cells #[.int .i64 0, .slice none 0 0] 40))
  have hlt := World.block_lt_of_cell? w _ hcell
  have hcell2 : (w.alloc (.cells #[.int .i64 0, .slice none 0 0] 40)).cell? ad = some (.int .u64 (x : Int)) := by rw [World.cell?_alloc_lt _ _ _ hlt]; exact hcell
  clear hK hM hl hC hrun hmid hwsl hws hwsl' hb2 hi0 hsz0
  go_enter Try.func35, Try.ntmps35
  go_wp2_with (first
    | (go_at_call 29; (with_reducible refine (refNumber_at H2).mono ?_); rintro en w' ⟨rfl, rfl⟩)
    | (go_at_call 29; (with_reducible refine (refNumber_at H3).mono ?_); rintro en w' ⟨rfl, rfl⟩))
  go_quiet (fail)
  obtain ⟨W1, hW1⟩ : ∃ W1, W1 = (w.alloc (.cells #[.int .i64 0, .slice none 0 0] 40)).drewN nq := ⟨_, rfl⟩
  rw [← hW1]
  have HB1 : Hid (Below (w.heap.size + 1) (w.alloc (.cells #[.int .i64 0, .slice none 0 0] 40)) W1) := by rw [hW1]; exact Lib.hid (pw_below_drewN (Below.refl _ _) _)
  have hsz1 : w.heap.size < W1.heap.size := by have := HB1.out.size; simp at this; omega
  have HBW : Hid (Below w.heap.size w W1) := Lib.hid (HB.out.trans (HB1.out.mono (by omega)))
  have HCW := Lib.hid (Kd.C_below HC.out HBW.out)
  have HCA := Lib.hid (HMid.out _ HCW.out)
  have HBA := Lib.hid (Below.refl W1.heap.size W1)
  have t2 : W1.cell? ad = some (.int .u64 (x : Int)) := (HB1.out.cell (by omega)).trans hcell2
  have s0 : W1.cell? ⟨w.heap.size, 0, none⟩ = some (.int .i64 0) := (HB1.out.cell (p := ⟨w.heap.size, 0, none⟩) (by simp)).trans (by simp [go_sem])
  have s1 : W1.cell? ⟨w.heap.size, 1, none⟩ = some (.slice none 0 0) := (HB1.out.cell (p := ⟨w.heap.size, 1, none⟩) (by simp)).trans (by simp [go_sem])
  have r0 : W1.frozen? ⟨w.heap.size, 0, none⟩ = false := (HB1.out.frozen (p := ⟨w.heap.size, 0, none⟩) (by simp)).trans (by simp [go_sem])
  have r1 : W1.frozen? ⟨w.heap.size, 1, none⟩ = false := (HB1.out.frozen (p := ⟨w.heap.size, 1, none⟩) (by simp)).trans (by simp [go_sem])
  clear hW1 HB1 HB hcell2
  go_wp2_with (at_builtin; go_loud (refine app_lit_ints (w0 := W1) .u64 23 30 8 Try.underlying23 infoU64 (by omega) rfl _ _ rfl [] ws ws (some ad2) ws.length (c - 1) ws.length 0 _ rfl rfl rfl rfl HCA HBA rfl rfl (by have := Hwsl.out; omega) ?_; intro A1 c1 w1 hl1 HC1 HR1 Hb))
  obtain ⟨W2, hW2⟩ : ∃ W2, W2 = w1.alloc (.cells #[.int .i64 (K : Int), .slice A1 ws.length c1] 40) := ⟨_, rfl⟩
  have q0 : W2.cell? ⟨w1.heap.size, 0, none⟩ = some (.int .i64 (K : Int)) := by rw [hW2]; simp [go_sem]
  have q1 : W2.cell? ⟨w1.heap.size, 1, none⟩ = some (.slice A1 ws.length c1) := by rw [hW2]; simp [go_sem]
  have hsz2 : w.heap.size < w1.heap.size := Nat.lt_of_lt_of_le hsz1 Hb.out.size
  have hsz3 : w1.heap.size < W2.heap.size := by rw [hW2]; simp
  have HB2 : Hid (Below W1.heap.size W1 W2) := by rw [hW2]; exact Lib.hid (Hb.out.alloc Hb.out.size _)
  have q2 : W2.cell? ad = some (.int .u64 (x : Int)) := (HB2.out.cell (by omega)).trans t2
  have z0 := (HB2.out.cell (p := ⟨w.heap.size, 0, none⟩) hsz1).trans s0
  have z1 := (HB2.out.cell (p := ⟨w.heap.size, 1, none⟩) hsz1).trans s1
  have f0 := (HB2.out.frozen (p := ⟨w.heap.size, 0, none⟩) hsz1).trans r0
  have f1 := (HB2.out.frozen (p := ⟨w.heap.size, 1, none⟩) hsz1).trans r1
  have HB3 : Hid (Below w.heap.size w W2) := Lib.hid (HBW.out.trans (HB2.out.mono (Nat.le_of_lt hsz1)))
  have HC2 : Hid ((Kd.int .u64).C W2 A1 ws.length ws) := by rw [hW2]; exact Lib.hid (Kd.C_below HC1.out ((Below.refl _ _).alloc (Nat.le_refl _) _))
  have HR2 : Hid ((Kd.int .u64).R 30 W2 (w.heap.size + 1) (fun _ => True) (.slice A1 ws.length c1) ws) := by rw [hW2]; exact Lib.hid (Kd.R_below (Kd.R_lower HR1.out (Nat.succ_le_of_lt hsz1)) ((Below.refl _ _).alloc (Nat.le_refl _) _))
  rw [← hW2]
  have had : ad.block < W2.heap.size := by have := HB2.out.size; omega
  have Hput := Lib.hid (fun W (hW : Hid (Below W2.heap.size W2 W)) => refPut_any W e n K he hn hKL A1 c1 ws HWS.out (by rw [Hwsl.out]; exact hM1) (Kd.C_below HC2.out hW.out))
  have hpos : (0 : Int) < (ws.length : Int) + 1 := by omega
  clear hW2 HC1 HR1 Hb HBA HCA HCW s0 s1 r0 r1 t2
  refine wp_region_held_drew (S := fun w' => w'.cell? ⟨w1.heap.size, 0, none⟩ = some (.int .i64 (K : Int)) ∧ w'.cell? ⟨w1.heap.size, 1, none⟩ = some (.slice A1 ws.length c1) ∧ w'.cell? ad = some (.int .u64 (x : Int))) (by kernel_rfl) (by go_keep) (fun hHeld => ?_)
  refine Held.take_val (i := 0) (some 59) (.int .i64 (e : Int)) rfl (by rfl) (by kernel_rfl) (by kernel_rfl) (by kernel_rfl) (fun _ _ _ h => h) (fun w hSw => (by (try dsimp only at hSw); go_simp)) hHeld ?_
  (try simp only [Act.put, List.setIfInBounds_toArray, List.set_cons_zero, List.set_cons_succ])
  refine Held.take_val (i := 1) (some 60) (.int .i64 (n : Int)) rfl (by rfl) (by kernel_rfl) (by kernel_rfl) (by kernel_rfl) (fun _ _ _ h => h) (fun w hSw => (by (try dsimp only at hSw); go_simp)) hHeld ?_
  (try simp only [Act.put, List.setIfInBounds_toArray, List.set_cons_zero, List.set_cons_succ])
  refine Held.take_val (i := 2) (some 61) (.agg #[.int .i64 (K : Int), .slice A1 ws.length c1]) rfl (by rfl) (by kernel_rfl) (by kernel_rfl) (by kernel_rfl) (fun _ _ _ h => h) (fun w hSw => (by (try dsimp only at hSw); go_simp)) hHeld ?_
  (try simp only [Act.put, List.setIfInBounds_toArray, List.set_cons_zero, List.set_cons_succ])
  refine Held.take_val (i := 6) (some 65) (.slice (some ad) l.length c) rfl (by rfl) (by kernel_rfl) (by kernel_rfl) (by kernel_rfl) (fun _ _ _ h => h) (fun w hSw => (by (try dsimp only at hSw); go_simp)) hHeld ?_
  (try simp only [Act.put, List.setIfInBounds_toArray, List.set_cons_zero, List.set_cons_succ])
  refine Held.take_val (i := 7) (some 66) (.pointer (some ad)) rfl (by rfl) (by kernel_rfl) (by kernel_rfl) (by kernel_rfl) (fun _ _ _ h => h) (fun w hSw => (by (try dsimp only at hSw); go_simp)) hHeld ?_
  (try simp only [Act.put, List.setIfInBounds_toArray, List.set_cons_zero, List.set_cons_succ])
  refine Held.take_val (i := 8) (some 67) (.int .u64 (x : Int)) rfl (by rfl) (by kernel_rfl) (by kernel_rfl) (by kernel_rfl) (fun _ _ _ h => h) (fun w hSw => (by (try dsimp only at hSw); go_simp)) hHeld ?_
  (try simp only [Act.put, List.setIfInBounds_toArray, List.set_cons_zero, List.set_cons_succ])
  refine Held.one_ready (i := 3) (by kernel_rfl) (AllReadyH.cons rfl (fun K' hK' => ?_) AllReadyH.nil)
  rw [if_pos (by rfl)]
  go_simp
  go_at_call 33; refine (Hput.out _ (Lib.hid (Below.refl W2.heap.size W2).drew)).mono ?_; rintro en w2 ⟨A2, c2, rfl, hl2, hC2, hR2, hb2⟩; obtain ⟨ad3, rfl, u0⟩ := C_cell hC2 0 (Nat.succ_pos _); have u1 : w2.cell? ad3 = some (.int .u64 ((fmark e n K ws : Nat) : Int)) := (by simpa [Addr.add] using u0); clear u0 hC2 hR2; have k0 := (hb2.cell (p := ⟨w1.heap.size, 0, none⟩) hsz3).trans q0; have k1 := (hb2.cell (p := ⟨w1.heap.size, 1, none⟩) hsz3).trans q1; have k2 := (hb2.cell (p := ad) had).trans q2; have HB5 := Lib.hid ((Below.refl W2.heap.size W2).drew.trans hb2); clear hb2
  refine hK'.out _ _ ⟨k0, k1, k2⟩ (fun hHeld2 => ?_)
  clear hK' K' hHeld
  (try simp only [Act.put, List.setIfInBounds_toArray, List.set_cons_zero, List.set_cons_succ])
  refine Held.take_val (i := 4) (some 63) (.pointer (some ad3)) rfl (by rfl) (by kernel_rfl) (by kernel_rfl) (by kernel_rfl) (fun _ _ _ h => h) (fun w hSw => (by (try dsimp only at hSw); go_simp)) hHeld2 ?_
  (try simp only [Act.put, List.setIfInBounds_toArray, List.set_cons_zero, List.set_cons_succ])
  refine Held.one_ready (i := 5) (by kernel_rfl) (AllReadyH.cons rfl (fun K' hK' => ?_) AllReadyH.nil)
  rw [if_pos (by rfl)]
  go_simp
  refine hK'.out _ _ ⟨k0, k1, k2⟩ (fun hHeld3 => ?_)
  clear hK' K' hHeld2
  (try simp only [Act.put, List.setIfInBounds_toArray, List.set_cons_zero, List.set_cons_succ])
  refine Held.take_val (i := 9) (some 68) (.bool (((fmark e n K ws : Nat) : Int) != (x : Int))) rfl (by rfl) (by kernel_rfl) (by kernel_rfl) (by kernel_rfl) (fun _ _ _ h => h) (fun w hSw => (by (try dsimp only at hSw); go_simp)) hHeld3 ?_
  (try simp only [Act.put, List.setIfInBounds_toArray, List.set_cons_zero, List.set_cons_succ])
  refine wpAnyH_done (by kernel_rfl) ?_ _
  have HB7 : Hid (Below w.heap.size w w2) := Lib.hid (HB3.out.trans (HB5.out.mono (by simpa using HB3.out.size)))
  have y0 := (HB5.out.cell (p := ⟨w.heap.size, 0, none⟩) (Nat.lt_trans hsz2 hsz3)).trans z0
  have y1 := (HB5.out.cell (p := ⟨w.heap.size, 1, none⟩) (Nat.lt_trans hsz2 hsz3)).trans z1
  have g0 := (HB5.out.frozen (p := ⟨w.heap.size, 0, none⟩) (Nat.lt_trans hsz2 hsz3)).trans f0
  have g1 := (HB5.out.frozen (p := ⟨w.heap.size, 1, none⟩) (Nat.lt_trans hsz2 hsz3)).trans f1
  clear q0 q1 q2 z0 z1 f0 f1 k0 k1 k2
  cases b2 with
  | true =>
    have e2 := Hb2.out
    have HN : NoFr w (.returned (.tuple #[.agg #[.int .i64 0, .slice none 0 0], .int .i64 0, .bool false])) ((w2.setCell ⟨w.heap.size, 0, none⟩ (.int .i64 0)).setCell ⟨w.heap.size, 1, none⟩ (.slice none 0 0)) := ⟨rfl, (HB7.out.setCell (Nat.le_refl _) _).setCell (Nat.le_refl _) _⟩
    go_wp2
    exact bodyPost_ret (v := .tuple #[.agg #[.int .i64 0, .slice none 0 0], .int .i64 0, .bool false]) (by simp [results, Try.results35, go_sem, y0, y1]) rfl HN
  | false =>
    have e2 := Hb2.out
    have HR3 : Hid ((Kd.int .u64).R 30 w2 (w.heap.size + 1) (fun _ => True) (.slice A1 ws.length c1) ws) := Lib.hid (Kd.R_below HR2.out HB5.out)
    have HR4 := Lib.hid (R_past (R_past HR3.out 0 (.int .i64 (K : Int))) 1 (.slice A1 ws.length c1))
    have HB8 := Lib.hid ((HB7.out.setCell (p := ⟨w.heap.size, 0, none⟩) (Nat.le_refl _) (.int .i64 (K : Int))).setCell (p := ⟨w.heap.size, 1, none⟩) (Nat.le_refl _) (.slice A1 ws.length c1))
    go_wp2
    exact bodyPost_ret (v := .tuple #[.agg #[.int .i64 (K : Int), .slice A1 ws.length c1], .int .i64 ((1 + M : Nat) : Int), .bool true]) (by simp [results, Try.results35, go_sem, y0, y1, Int.add_comm]) rfl
      ⟨A1, c1, rfl, hl1, (Kd.R_reads' HR4.out).2.2, Kd.R_lower HR4.out (by omega), HB8.out⟩

theorem refGet_any (w : World) (e n : Int) (A : Option Addr) (c : Nat) (l : List Int) (hl : WS l) (hm : l.length * 8 ≤ 140737488351232) (hc : l.length ≤ c) (hC : (Kd.int .u64).C w A l.length l) :
    Calls Try.prog 35 #[.int .i64 e, .int .i64 n, .slice A l.length c] w (GetP w (getR e n l)) := by
  by_cases h : l.length = 0 ∨ numB e = false ∨ numB n = false
  · rw [getR_none h]
    exact refGet_no1 w e n A l.length c (by omega) h
  · have hl0 : 0 < l.length := by
      rcases Nat.eq_zero_or_pos l.length with h0 | h0
      · exact absurd (Or.inl h0) h
      · exact h0
    have he : numB e = true := by
      cases h1 : numB e with
      | true => rfl
      | false => exact absurd (Or.inr (Or.inl h1)) h
    have hn : numB n = true := by
      cases h1 : numB n with
      | true => rfl
      | false => exact absurd (Or.inr (Or.inr h1)) h
    obtain ⟨ad, rfl, hcell⟩ := C_cell hC 0 hl0
    obtain ⟨x, hx⟩ : ∃ x : Nat, (l.getD 0 0).toNat = x := ⟨_, rfl⟩
    have h0 : l.getD 0 0 = l[0] := by simp [List.getD_eq_getElem?_getD, hl0]
    have hb := hl l[0] (List.getElem_mem hl0)
    have hx2 : (l[0] : Int) = (x : Int) := by rw [← hx, h0]; omega
    have hxl : x < 18446744073709551616 := by omega
    rw [hx2] at hcell
    have hcell : w.cell? ad = some (.int .u64 (x : Int)) := by simpa [Addr.add] using hcell
    obtain ⟨K, hK⟩ : ∃ K, x / 72057594037927936 = K := ⟨_, rfl⟩
    obtain ⟨M, hM⟩ : ∃ M, x / 4294967296 % 16777216 = M := ⟨_, rfl⟩
    obtain ⟨ws, hws⟩ : ∃ ws, (l.take (1 + M)).drop 1 = ws := ⟨_, rfl⟩
    rw [getR_some h hx hK hM hws]
    have hKL : K < 256 := by omega
    by_cases h2 : K = 0 ∨ 2000 < M ∨ l.length < 1 + M
    · rw [if_pos]
      · exact refGet_no2 w e n he hn ad c x K M l hl0 hm hxl hK hM hcell h2
      · by_cases h3 : l.length < 1 + M
        · exact Or.inl h3
        · refine Or.inr (Or.inl ?_)
          cases h4 : mayB (K : Int) M with
          | false => rfl
          | true => have := mayB_true.1 h4; omega
    · obtain ⟨e1, e2⟩ := numB_true.1 he
      obtain ⟨n1, n2⟩ := numB_true.1 hn
      have ee : ((e.toNat : Nat) : Int) = e := by omega
      have en : ((n.toNat : Nat) : Int) = n := by omega
      have hmay : mayB (K : Int) M = true := mayB_true.2 (by omega)
      have H := refGet_main w e.toNat n.toNat (by omega) (by omega) ad c x K M l ws hl hc hm hxl hK hM hcell hC (by omega) (by omega) (by omega) hws.symm (((fmark e.toNat n.toNat K ws : Nat) : Int) != (x : Int)) rfl
      rw [ee, en] at H
      refine H.mono fun en w' ⟨h3, h4⟩ => ?_
      by_cases h5 : fmark e.toNat n.toNat K ws = x
      · rw [if_neg]
        · exact h3 (by rw [h5]; simp)
        · rintro (h6 | h6 | h6)
          · omega
          · rw [hmay] at h6; cases h6
          · exact h6 h5
      · rw [if_pos (Or.inr (Or.inr h5))]
        exact h4 (by simp; omega)
end Go.Proofs.Ytmeoiennniknlaa.Frames

namespace Go.Proofs.Ytmeoiennniknlaa.Frames
open Go.RowKit Go.Shelf Go.Proofs.YtmeoiennniknlaaW.PrintWords Go.Proofs.Ytmeoiennniknlaa.Lb Go.Proofs.Ytmeoiennniknlaa.Sums
set_option linter.unusedVariables false
set_option linter.unusedSimpArgs false

theorem w64s {n : Int} (h0 : 0 ≤ n) (h1 : n < 9223372036854775807) : wrap64 (n + 1) = n + 1 := by unfold wrap64; omega

open PFramesGet in
theorem same_in (l : List Fr) (i : Int) (h0 : 0 ≤ i) (h1 : i < (l.length : Int)) (hb : (rd_T40 l i).f1.length < 9000000000000000000) (hi : i < 9000000000000000000)
    (h : ∃ k, gimmalref06_Same.l0 k l l (i + 1) = some true) : ∀ d (j : Nat), j + d = (rd_T40 l i).f1.length → ∃ k, gimmalref06_Same.l1 k l l i (j : Int) = some true
  | 0, j, hd => by
    obtain ⟨k, hk⟩ := h
    refine ⟨k + 1, ?_⟩
    rw [gimmalref06_Same.l1, if_pos h0, if_pos h1, if_neg (by omega), w64s h0 (by omega)]
    exact hk
  | d + 1, j, hd => by
    obtain ⟨k, hk⟩ := same_in l i h0 h1 hb hi h d (j + 1) (by omega)
    refine ⟨k + 1, ?_⟩
    rw [gimmalref06_Same.l1, if_pos h0, if_pos h1, if_pos (by omega), if_pos (by omega), if_pos h1, if_pos (by omega), if_pos rfl, w64s (by omega) (by omega)]
    exact hk
open PFramesGet in
theorem same_out (l : List Fr) (hl : l.length < 9000000000000000000) (hb : ∀ i, (rd_T40 l i).f1.length < 9000000000000000000) : ∀ d (i : Nat), i + d = l.length → ∃ k, gimmalref06_Same.l0 k l l (i : Int) = some true
  | 0, i, hd => ⟨1, by rw [gimmalref06_Same.l0, if_neg (by omega)]⟩
  | d + 1, i, hd => by
    have ih := same_out l hl hb d (i + 1) (by omega)
    obtain ⟨k, hk⟩ := same_in l (i : Int) (by omega) (by omega) (hb _) (by omega) ih (PFramesGet.rd_T40 l i).f1.length 0 (by omega)
    refine ⟨k + 1 + 1, ?_⟩
    rw [gimmalref06_Same.l0, if_pos (by omega), if_pos (by omega), if_pos (by omega), if_pos rfl, gimmalref06_Same.j1, if_neg (by simp)]
    exact hk
theorem same_any (w : World) (A0 A1 : Option Addr) (c0 c1 : Nat) (l : List Fr) (hl : l.length < 9000000000000000000) (hb : ∀ f ∈ l, f.f1.length < 9000000000000000000) (hC0 : kF.C w A0 l.length l) (hc0 : l.length ≤ c0) (hC1 : kF.C w A1 l.length l) (hc1 : l.length ≤ c1) :
    Calls Try.prog 34 #[.slice A0 l.length c0, .slice A1 l.length c1] w fun e w' => e = .returned (.bool true) ∧ Below w.heap.size w w' := by
  have hb2 : ∀ i, (PFramesGet.rd_T40 l i).f1.length < 9000000000000000000 := by
    intro i
    unfold PFramesGet.rd_T40
    rw [List.getD_eq_getElem?_getD]
    cases h : l[i.toNat]? with
    | none => simp [PFramesGet.z40]
    | some f => exact hb f (List.mem_of_getElem? h)
  obtain ⟨k, hk⟩ := same_out l hl hb2 l.length 0 (by omega)
  refine (PFramesGet.gimmalref06_Same.calls k A0 c0 l A1 c1 l true w hC0 hc0 hC1 hc1 ?_).mono fun e w' ⟨h1, h2⟩ => ⟨h1, h2.below⟩
  rw [PFramesGet.gimmalref06_Same.f, if_pos rfl]
  exact hk

set_option maxRecDepth 100000 in
set_option maxHeartbeats 400000 in
theorem refMay_any (w : World) (kind : Int) (A : Option Addr) (n c : Nat) (hn : n ≤ 140737488351232) :
    Calls Try.prog 28 #[.agg #[.int .i64 kind, .slice A n c]] w fun e w' => e = .returned (.bool (mayB kind n)) ∧ Below w.heap.size w w' := by
  unfold mayB
  by_cases h1 : 1 ≤ kind
  · have g1 : (0 : Int) < kind := by omega
    by_cases h2 : kind ≤ 255
    · have g2 : kind < 256 := by omega
      by_cases h3 : n ≤ 2000
      all_goals
        go_enter Try.func28, Try.ntmps28
        go_wp2
        go_ret
        exact ⟨by simp [h1, h2]; omega, (Below.refl _ w).alloc (Nat.le_refl _) _⟩
    · have g2 : ¬ kind < 256 := by omega
      go_enter Try.func28, Try.ntmps28
      go_wp2
      go_ret
      exact ⟨by simp [h1]; omega, (Below.refl _ w).alloc (Nat.le_refl _) _⟩
  · have g1 : ¬ (0 : Int) < kind := by omega
    go_enter Try.func28, Try.ntmps28
    go_wp2
    go_ret
    exact ⟨by simp; omega, (Below.refl _ w).alloc (Nat.le_refl _) _⟩

/-! Words at equal lists -/
theorem rd_get (l : List Int) (i : Nat) (h : i < l.length) : ∃ x, l[i]? = some x := ⟨l[i], List.getElem?_eq_getElem h⟩
theorem C_cell' {k : IntKind} {w : World} {A : Option Addr} {l : List Int} (h : (Kd.int k).C w A l.length l) (j : Nat) (hj : j < l.length) : ∃ ad, A = some ad ∧ w.cell? (ad.add j) = some (.int k l[j]) := C_cell h j hj

set_option maxRecDepth 100000 in
set_option maxHeartbeats 400000 in
theorem words_any (w : World) (A0 A1 : Option Addr) (c0 c1 : Nat) (l : List Int) (hlen : l.length ≤ 140737488351232) (hC0 : (Kd.int .u64).C w A0 l.length l) (hC1 : (Kd.int .u64).C w A1 l.length l) :
    Calls Try.prog 32 #[.slice A0 l.length c0, .slice A1 l.length c1] w fun e w' => e = .returned (.bool true) ∧ Below w.heap.size w w' := by
  have HC0 := Lib.hid hC0
  have HC1 := Lib.hid hC1
  have HB := Lib.hid (Below.refl w.heap.size w)
  have hL : (l.length : Int) ≤ 140737488351232 := by omega
  have Hlen := Lib.hid hlen
  clear hC0 hC1 hlen
  go_enter Try.func32, Try.ntmps32
  go_wp2
  go_loopg [5] l.length (fun kq v5 w' => ∃ (i : Nat), v5 = .int .i64 (i : Int) ∧ Hid (i + kq = l.length) ∧ Hid (Below w.heap.size w w'))
  case atStart => exact ⟨0, rfl, Lib.hid (by omega), HB⟩
  case round =>
    obtain ⟨i, rfl, Hi, Hb⟩ := hrel
    by_cases h : i < l.length
    · have hi : (i : Int) < (l.length : Int) := by omega
      obtain ⟨ad0, rfl, x0⟩ := C_cell (Kd.C_below HC0.out Hb.out) i h
      obtain ⟨ad1, rfl, x1⟩ := C_cell (Kd.C_below HC1.out Hb.out) i h
      obtain ⟨v, hv⟩ : ∃ v, v = l[i] := ⟨_, rfl⟩
      rw [← hv] at x0 x1
      have hw : wrap64 ((i : Int) + 1) = (i : Int) + 1 := w64s (by omega) (by omega)
      clear hv h
      go_wp2
      go_quiet (fail)
      go_wp2
      go_roundg (gk - 1)
      case measure => have := Hi.out; omega
      case rel => exact ⟨i + 1, by simp, Lib.hid (by have := Hi.out; omega), Lib.hid (pw_below_drewN Hb.out _)⟩
    · have hi : (l.length : Int) ≤ (i : Int) := by omega
      go_wp2
      go_ret
      exact ⟨rfl, Hb.out⟩

/-! great: is a list more than statements look at? -/
def greatB (l : List Fr) : Bool := l.any (fun f => decide (2100 < f.f1.length)) || decide (30 < l.length)
theorem greatB_false {l : List Fr} (h : greatB l = false) : l.length ≤ 30 ∧ ∀ f ∈ l, f.f1.length ≤ 2100 := by
  simp [greatB] at h
  exact ⟨h.2, h.1⟩
theorem k_cell {w : World} {A : Option Addr} {l : List Fr} (h : kF.C w A l.length l) (j : Nat) (hj : j < l.length) : ∃ ad A1 c1, A = some ad ∧ w.cell? (ad.add (j * 2)) = some (.int .i64 l[j].f0) ∧
    w.cell? ⟨(ad.add (j * 2)).block, (ad.add (j * 2)).off + 1, none⟩ = some (.slice A1 l[j].f1.length c1) ∧ l[j].f1.length ≤ c1 ∧ (Kd.int .u64).C w A1 l[j].f1.length l[j].f1 := by
  obtain ⟨ad, A1, c1, h1, h2, h3, h4, h5⟩ := PFramesGet.at_T40 h (j : Int) (by omega) (by omega)
  have e : PFramesGet.rd_T40 l (j : Int) = l[j] := by simp [PFramesGet.rd_T40, List.getD_eq_getElem?_getD, hj]
  rw [e] at h2 h3 h4 h5
  exact ⟨ad, A1, c1, h1, h2, h3, h4, h5⟩

set_option maxRecDepth 100000 in
set_option maxHeartbeats 400000 in
theorem great_any (w : World) (A : Option Addr) (c : Nat) (l : List Fr) (hlen : l.length ≤ 140737488351232) (hC : kF.C w A l.length l) :
    Calls Try.prog 26 #[.slice A l.length c] w fun e w' => e = .returned (.bool (greatB l)) ∧ w = w' := by
  have HC := Lib.hid hC
  have Hlen := Lib.hid hlen
  obtain ⟨g, hg⟩ : ∃ g, g = greatB l := ⟨_, rfl⟩
  have Hg := Lib.hid hg
  rw [← hg]
  clear hC hlen hg
  go_enter Try.func26, Try.ntmps26
  go_wp2
  go_loopg [3] l.length (fun kq v3 w' => ∃ (i : Nat), v3 = .int .i64 (i : Int) ∧ Hid (i + kq = l.length) ∧ Hid (∀ f ∈ l.take i, f.f1.length ≤ 2100) ∧ w = w')
  case atStart => exact ⟨0, rfl, Lib.hid (by omega), Lib.hid (by simp), rfl⟩
  case round =>
    obtain ⟨i, rfl, Hi, Hf, rfl⟩ := hrel
    by_cases h : i < l.length
    · have hi : (i : Int) < (l.length : Int) := by omega
      obtain ⟨ad, A1, c1, rfl, x0, x1, x2, x3⟩ := k_cell HC.out i h
      obtain ⟨n, hn⟩ : ∃ n, n = l[i].f1.length := ⟨_, rfl⟩
      rw [← hn] at x1
      have Hn := Lib.hid hn
      have hw : wrap64 ((i : Int) + 1) = (i : Int) + 1 := w64s (by omega) (by have := Hlen.out; omega)
      clear hn x0 x2 x3
      by_cases h2 : 2100 < n
      · have h2i : (2100 : Int) < (n : Int) := by omega
        have hgt : g = true := by
          rw [Hg.out]; unfold greatB
          rw [Bool.or_eq_true]; left
          rw [List.any_eq_true]
          exact ⟨l[i], List.getElem_mem h, by have e := Hn.out; exact decide_eq_true (by omega)⟩
        have Hgt := Lib.hid hgt
        clear hgt
        go_wp2
        go_ret
        rw [Hgt.out]
        exact ⟨rfl, rfl⟩
      · have h2i : (n : Int) ≤ 2100 := by omega
        go_wp2
        go_roundg (gk - 1)
        case measure => have := Hi.out; omega
        case rel =>
          refine ⟨i + 1, by simp [hw], Lib.hid (by have := Hi.out; omega), Lib.hid ?_, rfl⟩
          intro f hf
          rw [List.take_succ_eq_append_getElem h] at hf
          rcases List.mem_append.1 hf with hf | hf
          · exact Hf.out f hf
          · have := List.mem_singleton.1 hf
            rw [this, ← Hn.out]; omega
    · have hi : (l.length : Int) ≤ (i : Int) := by omega
      have hgt : g = decide ((30 : Int) < (l.length : Int)) := by
        rw [Hg.out]; unfold greatB
        rw [List.any_eq_false.2]
        · rw [Bool.false_or]; exact decide_eq_decide.2 (by omega)
        · intro f hf
          have := Hf.out f (by rw [List.take_of_length_le (by omega)]; exact hf)
          simp; exact this
      have Hgt := Lib.hid hgt
      clear hgt
      go_wp2
      go_ret
      rw [Hgt.out]
      exact ⟨by simp, rfl⟩

set_option maxRecDepth 100000 in
set_option maxHeartbeats 400000 in
theorem alive6_any (w : World) :
    Calls Try.prog 25 #[] w fun e w' => e = .returned (.bool true) ∧ Below w.heap.size w w' := by
  have HB := Lib.hid ((Below.refl w.heap.size w).alloc (Nat.le_refl _) (.cells #[.int .u64 5, .int .u64 6] 30))
  have HC : Hid ((Kd.int .u64).C (w.alloc (.cells #[.int .u64 5, .int .u64 6] 30)) (some ⟨w.heap.size, 0, none⟩) ([5, 6] : List Int).length [5, 6]) :=
    Lib.hid (Kd.R_reads' (lit_R w w (Below.refl _ _) .u64 30 [5, 6] (by simp))).2.2
  go_enter Try.func25, Try.ntmps25
  go_wp2_with (go_at_call 27; (refine (put_any _ 0 0 1 (by omega) (by omega) (by omega) (by omega) _ 2 [5, 6] (by intro x hx; simp at hx; omega) (by simp) HC.out).mono ?_); rintro en w1 ⟨A1, c1, rfl, hl1, hC1, hR1, hb⟩; obtain ⟨ad, rfl, y1⟩ := C_cell hC1 1 (by simp); obtain ⟨ad', e, y2⟩ := C_cell hC1 2 (by simp); cases e; have z1 : w1.cell? ⟨ad.block, ad.off + 1, none⟩ = some (.int .u64 5) := y1; have z2 : w1.cell? ⟨ad.block, ad.off + 2, none⟩ = some (.int .u64 6) := y2; have Hb := Lib.hid hb; clear hb hC1 hR1 y1 y2)
  go_ret
  exact ⟨rfl, HB.out.trans (Hb.out.mono (by simp))⟩
end Go.Proofs.Ytmeoiennniknlaa.Frames
