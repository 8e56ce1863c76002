/- The contract of frames.Get. -/
import Derived.Test.YtmeoiennniknlaaFrPut
import Derived.Test.YtmeoiennniknlaaHeld
namespace Go.Proofs.Ytmeoiennniknlaa.Frames
open Go.RowKit Go.Shelf Go.Proofs.YtmeoiennniknlaaW.PrintWords Go.Proofs.Ytmeoiennniknlaa.Lb Go.Proofs.Ytmeoiennniknlaa.Sums
set_option linter.unusedVariables false
set_option linter.unusedSimpArgs false

/-- What a frame at the beginning of words is. -/
def getR (e n : Int) (l : List Int) : Option (Fr × Nat) :=
  if l.length = 0 ∨ numB e = false ∨ numB n = false then none else
  let x := (l.getD 0 0).toNat
  let k := x / 72057594037927936
  let m := x / 4294967296 % 16777216
  let ws := (l.take (1 + m)).drop 1
  if l.length < 1 + m ∨ mayB (k : Int) m = false ∨ fmark e.toNat n.toNat k ws ≠ x then none else some (⟨k, ws⟩, 1 + m)

theorem open_same {W : World} {x K M S : Nat} (hx : x < 18446744073709551616) (hK : Hid (x / 72057594037927936 = K)) (hM : Hid (x / 4294967296 % 16777216 = M)) (hS : Hid (x % 4294967296 = S)) :
    Calls Try.prog 23 #[.int .u64 (x : Int)] W fun e w' => e = .returned (.tuple #[.int .i64 (K : Int), .int .i64 (M : Int), .int .u32 (S : Int)]) ∧ W = w' :=
  (open_any W x hx).mono fun e w' ⟨he, hw⟩ => ⟨by rw [he, hK.out, hM.out, hS.out], hw⟩

/-- No frame, said at once. -/
def NoFr (w : World) (e : Ending) (w' : World) : Prop := e = .returned (.tuple #[.agg #[.int .i64 0, .slice none 0 0], .int .i64 0, .bool false]) ∧ Below w.heap.size w w'

set_option maxRecDepth 100000 in
set_option maxHeartbeats 1000000 in
theorem get_no1 (w : World) (e n : Int) (A : Option Addr) (m c : Nat) (hm : m ≤ 140737488351232) (h : m = 0 ∨ numB e = false ∨ numB n = false) :
    Calls Try.prog 31 #[.int .i64 e, .int .i64 n, .slice A m c] w (NoFr w) := by
  have hb : Hid (Below w.heap.size w (w.alloc (.cells #[.int .i64 0, .slice none 0 0] 40))) := Lib.hid ((Below.refl _ w).alloc (Nat.le_refl _) _)
  by_cases h1 : m = 0
  · subst h1
    clear h
    go_enter Try.func31, Try.ntmps31
    go_wp2
    exact bodyPost_ret (v := .tuple #[.agg #[.int .i64 0, .slice none 0 0], .int .i64 0, .bool false]) (by simp [results, Try.results31, go_sem]) rfl ⟨rfl, hb.out⟩
  · have h1b : ((m : Int) == 0) = false := by simp; exact h1
    cases h2 : numB e with
    | false =>
      have H2 := Lib.hid h2
      clear h h2
      go_enter Try.func31, Try.ntmps31
      go_wp2_with (go_at_call 72; (with_reducible refine (number_at H2).mono ?_); rintro en w' ⟨rfl, rfl⟩)
      exact bodyPost_ret (v := .tuple #[.agg #[.int .i64 0, .slice none 0 0], .int .i64 0, .bool false]) (by simp [results, Try.results31, go_sem]) rfl ⟨rfl, hb.out⟩
    | true =>
      have h3 : numB n = false := by simpa [h1, h2] using h
      have H2 := Lib.hid h2
      have H3 := Lib.hid h3
      clear h h2 h3
      go_enter Try.func31, Try.ntmps31
      go_wp2_with (first
        | (go_at_call 72; (with_reducible refine (number_at H2).mono ?_); rintro en w' ⟨rfl, rfl⟩)
        | (go_at_call 72; (with_reducible refine (number_at H3).mono ?_); rintro en w' ⟨rfl, rfl⟩))
      exact bodyPost_ret (v := .tuple #[.agg #[.int .i64 0, .slice none 0 0], .int .i64 0, .bool false]) (by simp [results, Try.results31, go_sem]) rfl ⟨rfl, hb.out⟩

set_option maxRecDepth 100000 in
set_option maxHeartbeats 1000000 in
theorem get_no2 (w : World) (e n : Int) (he : numB e = true) (hn : numB n = true) (ad : Addr) (c : Nat) (x K M : Nat) (l : List Int) (hl0 : 0 < l.length) (hm : l.length * 8 ≤ 140737488351232) (hx : x < 18446744073709551616) (hK : x / 72057594037927936 = K) (hM : x / 4294967296 % 16777216 = M) (hcell : w.cell? ad = some (.int .u64 (x : Int))) (h : l.length < 1 + M) :
    Calls Try.prog 31 #[.int .i64 e, .int .i64 n, .slice (some ad) l.length c] w (NoFr w) := by
  have hb : Hid (Below w.heap.size w (w.alloc (.cells #[.int .i64 0, .slice none 0 0] 40))) := Lib.hid ((Below.refl _ w).alloc (Nat.le_refl _) _)
  have hML : M < 16777216 := by omega
  have H2 := Lib.hid he
  have H3 := Lib.hid hn
  have HK := Lib.hid hK
  have HM := Lib.hid hM
  obtain ⟨S, hS⟩ : ∃ S, x % 4294967296 = S := ⟨_, rfl⟩
  have HS := Lib.hid hS
  have h1b : ((l.length : Int) == 0) = false := by
    simp
    intro e
    rw [e] at hl0
    simp at hl0
  have hne : l ≠ [] := by intro e; rw [e] at hl0; simp at hl0
  have hlt := World.block_lt_of_cell? w _ hcell
  have hcell2 : (w.alloc (.cells #[.int .i64 0, .slice none 0 0] 40)).cell? ad = some (.int .u64 (x : Int)) := by rw [World.cell?_alloc_lt _ _ _ hlt]; exact hcell
  clear he hn hK hM hS
  go_enter Try.func31, Try.ntmps31
  go_wp2_with (first
    | (go_at_call 72; (with_reducible refine (number_at H2).mono ?_); rintro en w' ⟨rfl, rfl⟩)
    | (go_at_call 72; (with_reducible refine (number_at H3).mono ?_); rintro en w' ⟨rfl, rfl⟩)
    | (go_at_call 23; (with_reducible refine (open_same hx HK HM HS).mono ?_); rintro en w' ⟨rfl, rfl⟩))
  exact bodyPost_ret (v := .tuple #[.agg #[.int .i64 0, .slice none 0 0], .int .i64 0, .bool false]) (by simp [results, Try.results31, go_sem]) rfl ⟨rfl, hb.out⟩

/-- The frame told. -/
def YesFr (w : World) (k m : Nat) (ws : List Int) (e : Ending) (w' : World) : Prop :=
  ∃ A1 c1, e = .returned (.tuple #[.agg #[.int .i64 (k : Int), .slice A1 ws.length c1], .int .i64 ((1 + m : Nat) : Int), .bool true]) ∧ ws.length ≤ c1 ∧
    (Kd.int .u64).C w' A1 ws.length ws ∧ (Kd.int .u64).R 30 w' w.heap.size (fun _ => True) (.slice A1 ws.length c1) ws ∧ Below w.heap.size w w'

theorem R_past {α : Type} {d : Kd α} {e b : Nat} {ok : Nat → Prop} {v : Value} {xs : List α} {w : World} (h : d.R e w (b + 1) ok v xs) (i : Nat) (u : Value) :
    d.R e (w.setCell ⟨b, i, none⟩ u) (b + 1) (fun _ => True) v xs :=
  Kd.R_mono (Kd.R_far (p := ⟨b, i, none⟩) (Kd.R_bound h) (fun k hk => by have := hk.2.1; show k ≠ b; omega) u) (fun _ _ => trivial)

theorem info_u64 : ∃ i, Try.prog.info? 30 = some i ∧ i.size = 1 := by
  obtain ⟨i, hi, h⟩ := Option.map_eq_some_iff.1 infoU64
  simp only [Prod.mk.injEq] at h
  exact ⟨i, hi, h.2.1⟩

set_option maxRecDepth 100000 in
set_option maxHeartbeats 4000000 in
theorem get_main (w : World) (e n : Nat) (he : e < 4294967296) (hn : n < 4294967296) (ad : Addr) (c : Nat) (x K M : Nat) (l ws : List Int) (hl : WS l) (hcap : l.length ≤ c) (hm : l.length * 8 ≤ 140737488351232) (hx : x < 18446744073709551616) (hK : x / 72057594037927936 = K) (hM : x / 4294967296 % 16777216 = M) (hcell : w.cell? ad = some (.int .u64 (x : Int)))
    (hC : (Kd.int .u64).C w (some ad) l.length l) (hfit : 1 + M ≤ l.length) (hws : ws = (l.take (1 + M)).drop 1) (b1 b2 : Bool) (hb1 : mayB (K : Int) M = b1) (hb2 : b1 = true → (((fmark e n K ws : Nat) : Int) != (x : Int)) = b2) :
    Calls Try.prog 31 #[.int .i64 (e : Int), .int .i64 (n : Int), .slice (some ad) l.length c] w (fun en w' => (b1 = true ∧ b2 = false → YesFr w K M ws en w') ∧ (¬(b1 = true ∧ b2 = false) → NoFr w en w')) := by
  have hML : M < 16777216 := by omega
  have hKL : K < 256 := by omega
  have H2 := Lib.hid (numB_true.2 ⟨by omega, by omega⟩ : numB (e : Int) = true)
  have H3 := Lib.hid (numB_true.2 ⟨by omega, by omega⟩ : numB (n : Int) = true)
  have HK := Lib.hid hK
  have HM := Lib.hid hM
  have HC := Lib.hid hC
  obtain ⟨S, hS⟩ : ∃ S, x % 4294967296 = S := ⟨_, rfl⟩
  have HS := Lib.hid hS
  have hl0 : 0 < l.length := by omega
  have h1b : ((l.length : Int) == 0) = false := by
    simp
    intro e
    rw [e] at hl0
    simp at hl0
  have hne : l ≠ [] := by intro e; rw [e] at hl0; simp at hl0
  obtain ⟨i0, hi0, hsz0⟩ := info_u64
  obtain ⟨ad2, hrun, hmid⟩ := mid_ints (P := Try.prog) 23 30 .u64 Try.underlying23 hi0 hsz0 ad c l 1 (1 + M) (by omega) hfit hcap
  have hwsl : ws.length = 1 + M - 1 := by rw [hws, List.length_drop, List.length_take]; omega
  have hrun' : ∀ W : World, (Instr.slice 23 (.slice (some ad) l.length c) (some (.int .i64 1)) (some (.int .i64 (1 + (M : Int)))) none).run Try.prog W = .ok (.slice (some ad2) ws.length (c - 1)) W := by
    intro W
    have h := hrun W
    rw [show ((1 + M : Nat) : Int) = 1 + (M : Int) by omega, ← hwsl] at h
    exact h
  have HMid : Hid (∀ w : World, (Kd.int .u64).C w (some ad) l.length l → (Kd.int .u64).C w (some ad2) ws.length ws) := by
    intro w h
    have h2 := hmid w h
    rw [← hwsl, ← hws] at h2
    exact h2
  have hwsl' : ws.length = M := by omega
  have HWS : Hid (WS ws) := by
    intro y hy
    rw [hws] at hy
    exact hl y (List.mem_of_mem_take (List.mem_of_mem_drop hy))
  have Hb1 := Lib.hid hb1
  have Hb2 := Lib.hid hb2
  have Hwsl := Lib.hid hwsl'
  have HB := Lib.hid ((Below.refl w.heap.size w).alloc (Nat.le_refl _) (.cells #[.int .i64 0, .slice none 0 0] 40))
  have hlt := World.block_lt_of_cell? w _ hcell
  have hcell2 : (w.alloc (.cells #[.int .i64 0, .slice none 0 0] 40)).cell? ad = some (.int .u64 (x : Int)) := by rw [World.cell?_alloc_lt _ _ _ hlt]; exact hcell
  clear hK hM hS hl hC hrun hmid hwsl hws hwsl' hb1 hb2 hi0 hsz0
  go_enter Try.func31, Try.ntmps31
  go_wp2_with (first
    | (go_at_call 72; (with_reducible refine (number_at H2).mono ?_); rintro en w' ⟨rfl, rfl⟩)
    | (go_at_call 72; (with_reducible refine (number_at H3).mono ?_); rintro en w' ⟨rfl, rfl⟩)
    | (go_at_call 23; (with_reducible refine (open_same hx HK HM HS).mono ?_); rintro en w' ⟨rfl, rfl⟩)
    | (go_at_call 74; (with_reducible refine (clone_any _ _ _ _ ?_ (Kd.C_below (HMid.out _ HC.out) HB.out) (fun e => by cases e)).mono ?_); rotate_right; rintro en w1 ⟨A1, c1, rfl, hl1, hC1, hR1, hb⟩; have Hb := Lib.hid hb; have HC1 := Lib.hid hC1; have HR1 := Lib.hid hR1; clear hb hC1 hR1))
  case refine_1 => have := Hwsl.out; omega
  obtain ⟨W2, hW2⟩ : ∃ W2, W2 = w1.alloc (.cells #[.int .i64 (K : Int), .slice A1 ws.length c1] 40) := ⟨_, rfl⟩
  have q0 : W2.cell? ⟨w1.heap.size, 0, none⟩ = some (.int .i64 (K : Int)) := by rw [hW2]; simp [go_sem]
  have q1 : W2.cell? ⟨w1.heap.size, 1, none⟩ = some (.slice A1 ws.length c1) := by rw [hW2]; simp [go_sem]
  have hsz1 : w.heap.size < w1.heap.size := by have := Hb.out.size; simp at this; omega
  have hsz2 : w1.heap.size < W2.heap.size := by rw [hW2]; simp
  have HB2 : Hid (Below (w.heap.size + 1) (w.alloc (.cells #[.int .i64 0, .slice none 0 0] 40)) W2) := by
    rw [hW2]; exact Lib.hid ((by simpa using Hb.out : Below (w.heap.size + 1) _ w1).alloc (by omega) _)
  have q2 : W2.cell? ad = some (.int .u64 (x : Int)) := (HB2.out.cell (by omega)).trans hcell2
  have z0 : W2.cell? ⟨w.heap.size, 0, none⟩ = some (.int .i64 0) := (HB2.out.cell (p := ⟨w.heap.size, 0, none⟩) (by simp)).trans (by simp [go_sem])
  have z1 : W2.cell? ⟨w.heap.size, 1, none⟩ = some (.slice none 0 0) := (HB2.out.cell (p := ⟨w.heap.size, 1, none⟩) (by simp)).trans (by simp [go_sem])
  have f0 : W2.frozen? ⟨w.heap.size, 0, none⟩ = false := (HB2.out.frozen (p := ⟨w.heap.size, 0, none⟩) (by simp)).trans (by simp [go_sem])
  have f1 : W2.frozen? ⟨w.heap.size, 1, none⟩ = false := (HB2.out.frozen (p := ⟨w.heap.size, 1, none⟩) (by simp)).trans (by simp [go_sem])
  have HB3 : Hid (Below w.heap.size w W2) := Lib.hid (HB.out.trans (HB2.out.mono (by omega)))
  have HC2 : Hid ((Kd.int .u64).C W2 A1 ws.length ws) := by rw [hW2]; exact Lib.hid (Kd.C_below HC1.out ((Below.refl _ _).alloc (Nat.le_refl _) _))
  have HR2 : Hid ((Kd.int .u64).R 30 W2 (w.heap.size + 1) (fun _ => True) (.slice A1 ws.length c1) ws) := by rw [hW2]; exact Lib.hid (Kd.R_below (Kd.R_lower HR1.out (by simp)) ((Below.refl _ _).alloc (Nat.le_refl _) _))
  rw [← hW2]
  have had : ad.block < W2.heap.size := by omega
  clear hW2 HC1 HR1 Hb HB hcell2
  cases b1 with
  | false =>
    refine wp_region_held_drew (S := fun w' => w'.cell? ⟨w1.heap.size, 0, none⟩ = some (.int .i64 (K : Int)) ∧ w'.cell? ⟨w1.heap.size, 1, none⟩ = some (.slice A1 ws.length c1)) (by kernel_rfl) (by go_keep) (fun hHeld => ?_)
    refine Held.take_val (i := 0) (some 48) (.agg #[.int .i64 (K : Int), .slice A1 ws.length c1]) rfl (by rfl) (by kernel_rfl) (by kernel_rfl) (by kernel_rfl) (fun _ _ _ h => h) (fun w hSw => (by (try dsimp only at hSw); go_simp)) hHeld ?_
    (try simp only [Act.put, List.setIfInBounds_toArray, List.set_cons_zero, List.set_cons_succ])
    refine Held.one_ready (i := 1) (by kernel_rfl) (AllReadyH.cons rfl (fun K hK => ?_) AllReadyH.nil)
    rw [if_pos (by rfl)]
    go_simp
    go_at_call 30; refine (may_any _ _ _ _ _ (by rw [Hwsl.out]; omega)).mono ?_; rw [Hwsl.out, Hb1.out]; rintro en w2 ⟨rfl, Hb2⟩; have k0 := (Hb2.cell (p := ⟨w1.heap.size, 0, none⟩) hsz2).trans q0; have k1 := (Hb2.cell (p := ⟨w1.heap.size, 1, none⟩) hsz2).trans q1
    refine hK.out _ _ ⟨k0, k1⟩ (fun hHeld2 => ?_)
    clear hK K hHeld
    (try simp only [Act.put, List.setIfInBounds_toArray, List.set_cons_zero, List.set_cons_succ])
    refine Held.take_val (i := 2) (some 50) (.bool true) rfl (by rfl) (by kernel_rfl) (by kernel_rfl) (by kernel_rfl) (fun _ _ _ h => h) (fun w hSw => (by (try dsimp only at hSw); go_simp)) hHeld2 ?_
    (try simp only [Act.put, List.setIfInBounds_toArray, List.set_cons_zero, List.set_cons_succ])
    refine Held.take_val (i := 3) (some 51) (.bool true) rfl (by rfl) (by kernel_rfl) (by kernel_rfl) (by kernel_rfl) (fun _ _ _ h => h) (fun w hSw => (by (try dsimp only at hSw); go_simp)) hHeld2 ?_
    (try simp only [Act.put, List.setIfInBounds_toArray, List.set_cons_zero, List.set_cons_succ])
    refine Held.take_pass (i := 4) (some 52) rfl (by rfl) (by kernel_rfl) (by kernel_rfl) (by kernel_rfl) (fun _ _ _ h => h) hHeld2 ?_
    (try simp only [Act.put, List.setIfInBounds_toArray, List.set_cons_zero, List.set_cons_succ])
    refine Held.take_pass (i := 5) (some 53) rfl (by rfl) (by kernel_rfl) (by kernel_rfl) (by kernel_rfl) (fun _ _ _ h => h) hHeld2 ?_
    (try simp only [Act.put, List.setIfInBounds_toArray, List.set_cons_zero, List.set_cons_succ])
    refine Held.take_pass (i := 6) (some 54) rfl (by rfl) (by kernel_rfl) (by kernel_rfl) (by kernel_rfl) (fun _ _ _ h => h) hHeld2 ?_
    (try simp only [Act.put, List.setIfInBounds_toArray, List.set_cons_zero, List.set_cons_succ])
    refine Held.take_pass (i := 7) (some 55) rfl (by rfl) (by kernel_rfl) (by kernel_rfl) (by kernel_rfl) (fun _ _ _ h => h) hHeld2 ?_
    (try simp only [Act.put, List.setIfInBounds_toArray, List.set_cons_zero, List.set_cons_succ])
    refine Held.take_pass (i := 8) (some 56) rfl (by rfl) (by kernel_rfl) (by kernel_rfl) (by kernel_rfl) (fun _ _ _ h => h) hHeld2 ?_
    (try simp only [Act.put, List.setIfInBounds_toArray, List.set_cons_zero, List.set_cons_succ])
    refine Held.take_pass (i := 9) (some 57) rfl (by rfl) (by kernel_rfl) (by kernel_rfl) (by kernel_rfl) (fun _ _ _ h => h) hHeld2 ?_
    (try simp only [Act.put, List.setIfInBounds_toArray, List.set_cons_zero, List.set_cons_succ])
    refine Held.take_pass (i := 10) (some 58) rfl (by rfl) (by kernel_rfl) (by kernel_rfl) (by kernel_rfl) (fun _ _ _ h => h) hHeld2 ?_
    (try simp only [Act.put, List.setIfInBounds_toArray, List.set_cons_zero, List.set_cons_succ])
    refine Held.take_pass (i := 11) (some 59) rfl (by rfl) (by kernel_rfl) (by kernel_rfl) (by kernel_rfl) (fun _ _ _ h => h) hHeld2 ?_
    (try simp only [Act.put, List.setIfInBounds_toArray, List.set_cons_zero, List.set_cons_succ])
    refine Held.take_pass (i := 12) (some 60) rfl (by rfl) (by kernel_rfl) (by kernel_rfl) (by kernel_rfl) (fun _ _ _ h => h) hHeld2 ?_
    (try simp only [Act.put, List.setIfInBounds_toArray, List.set_cons_zero, List.set_cons_succ])
    refine Held.take_pass (i := 13) (some 61) rfl (by rfl) (by kernel_rfl) (by kernel_rfl) (by kernel_rfl) (fun _ _ _ h => h) hHeld2 ?_
    (try simp only [Act.put, List.setIfInBounds_toArray, List.set_cons_zero, List.set_cons_succ])
    refine Held.take_val (i := 14) (some 62) (.bool true) rfl (by rfl) (by kernel_rfl) (by kernel_rfl) (by kernel_rfl) (fun _ _ _ h => h) (fun w hSw => (by (try dsimp only at hSw); go_simp)) hHeld2 ?_
    (try simp only [Act.put, List.setIfInBounds_toArray, List.set_cons_zero, List.set_cons_succ])
    refine wpAnyH_done (by kernel_rfl) ?_ _
    have y0 := (Hb2.cell (p := ⟨w.heap.size, 0, none⟩) (Nat.lt_trans hsz1 hsz2)).trans z0
    have y1 := (Hb2.cell (p := ⟨w.heap.size, 1, none⟩) (Nat.lt_trans hsz1 hsz2)).trans z1
    have g0 := (Hb2.frozen (p := ⟨w.heap.size, 0, none⟩) (Nat.lt_trans hsz1 hsz2)).trans f0
    have g1 := (Hb2.frozen (p := ⟨w.heap.size, 1, none⟩) (Nat.lt_trans hsz1 hsz2)).trans f1
    have HB4 : Hid (Below w.heap.size w w2) := Lib.hid (HB3.out.drew.trans (Hb2.mono (by simpa using HB3.out.size)))
    clear Hb2
    go_wp2
    have HN : NoFr w (.returned (.tuple #[.agg #[.int .i64 0, .slice none 0 0], .int .i64 0, .bool false])) ((w2.setCell ⟨w.heap.size, 0, none⟩ (.int .i64 0)).setCell ⟨w.heap.size, 1, none⟩ (.slice none 0 0)) := ⟨rfl, (HB4.out.setCell (Nat.le_refl _) _).setCell (Nat.le_refl _) _⟩
    exact bodyPost_ret (v := .tuple #[.agg #[.int .i64 0, .slice none 0 0], .int .i64 0, .bool false]) (by simp [results, Try.results31, go_sem, y0, y1]) rfl ⟨fun h => absurd h.1 Bool.noConfusion, fun _ => HN⟩
  | true =>
    obtain ⟨hk1, hk2, hk3⟩ := mayB_true.1 Hb1.out
    have Hmk := Lib.hid (fun W (hW : Hid (Below W2.heap.size W2 W)) => mark_call W e n K he hn hKL A1 c1 ws HWS.out (by rw [Hwsl.out]; exact hk3) (Kd.C_below HC2.out hW.out))
    clear hk1 hk2 hk3
    go_region_held3 (fun w' => w'.cell? ⟨w1.heap.size, 0, none⟩ = some (.int .i64 (K : Int)) ∧ w'.cell? ⟨w1.heap.size, 1, none⟩ = some (.slice A1 ws.length c1) ∧ w'.cell? ad = some (.int .u64 (x : Int)))
      (first | go_keep)
      (first
        | (go_at_call 30; refine (may_any _ _ _ _ _ (by rw [Hwsl.out]; omega)).mono ?_; rw [Hwsl.out, Hb1.out]; rintro en w2 ⟨rfl, Hb2⟩; have k0 := (Hb2.cell (p := ⟨w1.heap.size, 0, none⟩) hsz2).trans q0; have k1 := (Hb2.cell (p := ⟨w1.heap.size, 1, none⟩) hsz2).trans q1; have k2 := (Hb2.cell (p := ad) had).trans q2; have HB5 := Lib.hid ((Below.refl W2.heap.size W2).drew.trans Hb2); clear Hb2)
        | (go_at_call 73; refine (Hmk.out _ HB5).mono ?_; rintro en w3 ⟨rfl, Hb3⟩; have k3 := (Hb3.cell (p := ⟨w1.heap.size, 0, none⟩) (Nat.lt_of_lt_of_le hsz2 HB5.out.size)).trans k0; have k4 := (Hb3.cell (p := ⟨w1.heap.size, 1, none⟩) (Nat.lt_of_lt_of_le hsz2 HB5.out.size)).trans k1; have k5 := (Hb3.cell (p := ad) (Nat.lt_of_lt_of_le had HB5.out.size)).trans k2; have HB6 := Lib.hid (HB5.out.trans (Hb3.mono HB5.out.size)); clear Hb3))
    have HB7 : Hid (Below w.heap.size w w3) := Lib.hid (HB3.out.trans (HB6.out.mono (by simpa using HB3.out.size)))
    have y0 := (HB6.out.cell (p := ⟨w.heap.size, 0, none⟩) (Nat.lt_trans hsz1 hsz2)).trans z0
    have y1 := (HB6.out.cell (p := ⟨w.heap.size, 1, none⟩) (Nat.lt_trans hsz1 hsz2)).trans z1
    have g0 := (HB6.out.frozen (p := ⟨w.heap.size, 0, none⟩) (Nat.lt_trans hsz1 hsz2)).trans f0
    have g1 := (HB6.out.frozen (p := ⟨w.heap.size, 1, none⟩) (Nat.lt_trans hsz1 hsz2)).trans f1
    clear q0 q1 q2 z0 z1 f0 f1 k0 k1 k2
    cases b2 with
    | true =>
      have e2 := Hb2.out (by trivial)
      have HN : NoFr w (.returned (.tuple #[.agg #[.int .i64 0, .slice none 0 0], .int .i64 0, .bool false])) ((w3.setCell ⟨w.heap.size, 0, none⟩ (.int .i64 0)).setCell ⟨w.heap.size, 1, none⟩ (.slice none 0 0)) := ⟨rfl, (HB7.out.setCell (Nat.le_refl _) _).setCell (Nat.le_refl _) _⟩
      go_wp2
      exact bodyPost_ret (v := .tuple #[.agg #[.int .i64 0, .slice none 0 0], .int .i64 0, .bool false]) (by simp [results, Try.results31, go_sem, y0, y1]) rfl HN
    | false =>
      have e2 := Hb2.out (by trivial)
      have HR3 : Hid ((Kd.int .u64).R 30 w3 (w.heap.size + 1) (fun _ => True) (.slice A1 ws.length c1) ws) := Lib.hid (Kd.R_below HR2.out HB6.out)
      have HR4 := Lib.hid (R_past (R_past HR3.out 0 (.int .i64 (K : Int))) 1 (.slice A1 ws.length c1))
      have HB8 := Lib.hid ((HB7.out.setCell (p := ⟨w.heap.size, 0, none⟩) (Nat.le_refl _) (.int .i64 (K : Int))).setCell (p := ⟨w.heap.size, 1, none⟩) (Nat.le_refl _) (.slice A1 ws.length c1))
      go_wp2
      exact bodyPost_ret (v := .tuple #[.agg #[.int .i64 (K : Int), .slice A1 ws.length c1], .int .i64 ((1 + M : Nat) : Int), .bool true]) (by simp [results, Try.results31, go_sem, y0, y1]) rfl
        ⟨A1, c1, rfl, hl1, (Kd.R_reads' HR4.out).2.2, Kd.R_lower HR4.out (by omega), HB8.out⟩
end Go.Proofs.Ytmeoiennniknlaa.Frames
