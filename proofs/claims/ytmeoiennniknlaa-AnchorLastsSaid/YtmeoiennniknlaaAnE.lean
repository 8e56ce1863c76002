/- The contract of the reference's Read. -/
import Derived.Test.YtmeoiennniknlaaAnD
import Derived.Test.YtmeoiennniknlaaLib0
import Derived.Deep.RegionHeld3
namespace Go.Proofs.Ytmeoiennniknlaa.Anchor
open Go.RowKit Go.Shelf Go.Proofs.YtmeoiennniknlaaW.PrintWords Go.Proofs.Ytmeoiennniknlaa.Lb Go.Proofs.Ytmeoiennniknlaa.Sums
set_option linter.unusedVariables false
set_option linter.unusedSimpArgs false

theorem lo_small {x : Int} (h : 0 ≤ x) (h2 : x < 4294967296) : lo x = x := by unfold lo; omega

set_option maxRecDepth 100000 in
set_option maxHeartbeats 2000000 in
theorem refRead_big (W : World) (s0 s1 s2 s3 s4 s5 s6 s7 : Int) (h : 4294967296 ≤ s1 ∨ 4294967296 ≤ s2 ∨ 4294967296 ≤ s3 ∨ 4294967296 ≤ s4) :
    Calls Try.prog 42 #[agg8 s0 s1 s2 s3 s4 s5 s6 s7] W fun en W' => en = .returned (.tuple #[agg4 0 0 0 0, .bool false]) ∧ Below W.heap.size W W' := by
  have h2 : 4294967296 ≤ s1 ∨ (s1 < 4294967296 ∧ (4294967296 ≤ s2 ∨ (s2 < 4294967296 ∧ (4294967296 ≤ s3 ∨ (s3 < 4294967296 ∧ 4294967296 ≤ s4))))) := by omega
  clear h
  go_enter Try.func42, Try.ntmps42
  go_wp2
  refine wp_loop_rounds 4 ?_
  rw [rounds_succ]
  rcases h2 with h2 | ⟨g1, h2⟩
  · go_wp2
    exact bodyPost_ret (v := .tuple #[agg4 0 0 0 0, .bool false]) (by simp [results, Try.results42, go_sem]) rfl ⟨rfl, ((Below.refl _ W).alloc (Nat.le_refl _) _).alloc (by simp) _⟩
  · go_wp2
    rw [rounds_succ]
    rcases h2 with h2 | ⟨g2, h2⟩
    · go_wp2
      exact bodyPost_ret (v := .tuple #[agg4 0 0 0 0, .bool false]) (by simp [results, Try.results42, go_sem]) rfl ⟨rfl, ((Below.refl _ W).alloc (Nat.le_refl _) _).alloc (by simp) _⟩
    · go_wp2
      rw [rounds_succ]
      rcases h2 with h2 | ⟨g3, h2⟩
      · go_wp2
        exact bodyPost_ret (v := .tuple #[agg4 0 0 0 0, .bool false]) (by simp [results, Try.results42, go_sem]) rfl ⟨rfl, ((Below.refl _ W).alloc (Nat.le_refl _) _).alloc (by simp) _⟩
      · go_wp2
        rw [rounds_succ]
        go_wp2
        exact bodyPost_ret (v := .tuple #[agg4 0 0 0 0, .bool false]) (by simp [results, Try.results42, go_sem]) rfl ⟨rfl, ((Below.refl _ W).alloc (Nat.le_refl _) _).alloc (by simp) _⟩

theorem refMay_at {W : World} {n e a w : Int} {b : Bool} (h : Hid (ancB n e a w = b)) :
    Calls Try.prog 43 #[agg4 n e a w] W fun en W' => en = .returned (.bool b) ∧ Hid (Below W.heap.size W W') := by
  have h2 := refMay_any W n e a w
  rw [h.out] at h2
  exact h2.mono fun _ _ h => ⟨h.1, Lib.hid h.2⟩
theorem refSector_at {W : World} {n e a w : Int} {mk : Nat} (h : Hid (ancB n e a w = true)) (hm : Hid (amark n e a w = mk)) :
    Calls Try.prog 44 #[agg4 n e a w] W fun en W' => en = .returned (agg8 (mk : Int) n e a w 0 0 0) ∧ Hid (Below W.heap.size W W') := by
  have e1 := hm.out
  subst e1
  exact (refSector_any W n e a w h.out).mono fun en W' ⟨h1, h2⟩ => ⟨h1, Lib.hid h2⟩

set_option maxRecDepth 100000 in
set_option maxHeartbeats 2000000 in
theorem refRead_small (W : World) (s0 s1 s2 s3 s4 s5 s6 s7 : Int) (g1 : 0 ≤ s1) (g2 : 0 ≤ s2) (g3 : 0 ≤ s3) (g4 : 0 ≤ s4) (h1 : s1 < 4294967296) (h2 : s2 < 4294967296) (h3 : s3 < 4294967296) (h4 : s4 < 4294967296) (m : Bool) (hm : ancB s1 s2 s3 s4 = m) (mk : Nat) (hk : amark s1 s2 s3 s4 = mk) (b : Bool) (hb : decide ([(mk : Int), s1, s2, s3, s4, 0, 0, 0] = [s0, s1, s2, s3, s4, s5, s6, s7]) = b) :
    Calls Try.prog 42 #[agg8 s0 s1 s2 s3 s4 s5 s6 s7] W fun en W' => en = .returned (if (m && b) = true then .tuple #[agg4 s1 s2 s3 s4, .bool true] else .tuple #[agg4 0 0 0 0, .bool false]) ∧ Below W.heap.size W W' := by
  have HM := Lib.hid hm
  have HK := Lib.hid hk
  have heq : ∀ W' : World, (Op.equalIn 10000 59 (agg8 (mk : Int) s1 s2 s3 s4 0 0 0) (agg8 s0 s1 s2 s3 s4 s5 s6 s7)).run Try.prog W' = .ok b W' := fun W' => by
    rw [← hb]
    exact ArrEq.sector_eq [(mk : Int), s1, s2, s3, s4, 0, 0, 0] [s0, s1, s2, s3, s4, s5, s6, s7] rfl rfl W'
  clear hm hk hb
  go_enter Try.func42, Try.ntmps42
  go_wp2
  refine wp_loop_rounds 5 ?_
  rw [rounds_succ]
  go_wp2
  rw [rounds_succ]
  go_wp2
  rw [rounds_succ]
  go_wp2
  rw [rounds_succ]
  go_wp2
  rw [rounds_succ]
  go_wp2
  obtain ⟨V, hV⟩ : ∃ V, V = ((W.alloc (.cells (nums .u64 [s0, s1, s2, s3, s4, s5, s6, s7]).toArray 59)).alloc (.cells #[.int .i64 0, .int .i64 0, .int .i64 0, .int .i64 0] 58)).alloc (.cells #[.int .i64 s1, .int .i64 s2, .int .i64 s3, .int .i64 s4] 58) := ⟨_, rfl⟩
  have B1 : Hid (Blk V W.heap.size (nums .u64 [s0, s1, s2, s3, s4, s5, s6, s7]) 59) := by rw [hV]; exact Lib.hid (((Blk.new W _ _).alloc _).alloc _)
  have B2 : Hid (Blk V (W.heap.size + 1) [.int .i64 0, .int .i64 0, .int .i64 0, .int .i64 0] 58) := by
    rw [hV]
    have h := (Blk.new (W.alloc (.cells (nums .u64 [s0, s1, s2, s3, s4, s5, s6, s7]).toArray 59)) [.int .i64 0, .int .i64 0, .int .i64 0, .int .i64 0] 58).alloc (.cells #[.int .i64 s1, .int .i64 s2, .int .i64 s3, .int .i64 s4] 58)
    rw [World.size_alloc] at h
    exact Lib.hid h
  have B5 : Hid (Blk V (W.heap.size + 1 + 1) [.int .i64 s1, .int .i64 s2, .int .i64 s3, .int .i64 s4] 58) := by
    rw [hV]
    have h := Blk.new ((W.alloc (.cells (nums .u64 [s0, s1, s2, s3, s4, s5, s6, s7]).toArray 59)).alloc (.cells #[.int .i64 0, .int .i64 0, .int .i64 0, .int .i64 0] 58)) [.int .i64 s1, .int .i64 s2, .int .i64 s3, .int .i64 s4] 58
    rw [World.size_alloc, World.size_alloc] at h
    exact Lib.hid h
  have HBV : Hid (Below W.heap.size W V) := by rw [hV]; exact Lib.hid ((((Below.refl _ W).alloc (Nat.le_refl _) _).alloc (by simp) _).alloc (by simp; omega) _)
  have hVV : ((W.alloc (.cells #[.int .u64 s0, .int .u64 s1, .int .u64 s2, .int .u64 s3, .int .u64 s4, .int .u64 s5, .int .u64 s6, .int .u64 s7] 59)).alloc (.cells #[.int .i64 0, .int .i64 0, .int .i64 0, .int .i64 0] 58)).alloc (.cells #[.int .i64 s1, .int .i64 s2, .int .i64 s3, .int .i64 s4] 58) = V := hV.symm
  rw [hVV]
  clear hV hVV
  have p5 := B5.out.cell
  have p1 := B1.out.cell
  simp only [nums, List.map_cons, List.map_nil] at p1
  cases m with
  | false =>
    refine wp_region_held_drew (S := fun w' => w'.cell? ⟨W.heap.size + 1 + 1, 0, none⟩ = some (.int .i64 s1) ∧ w'.cell? ⟨W.heap.size + 1 + 1, 1, none⟩ = some (.int .i64 s2) ∧ w'.cell? ⟨W.heap.size + 1 + 1, 2, none⟩ = some (.int .i64 s3) ∧ w'.cell? ⟨W.heap.size + 1 + 1, 3, none⟩ = some (.int .i64 s4)) (by kernel_rfl) (by go_keep) (fun hHeld => ?_)
    refine Held.take_val (i := 0) (some 28) (agg4 s1 s2 s3 s4) rfl (by rfl) (by kernel_rfl) (by kernel_rfl) (by kernel_rfl) (fun _ _ _ h => h) (fun w hSw => (by (try dsimp only at hSw); go_simp)) hHeld ?_
    (try simp only [Act.put, List.setIfInBounds_toArray, List.set_cons_zero, List.set_cons_succ])
    refine Held.one_ready (i := 1) (by kernel_rfl) (AllReadyH.cons rfl (fun K hK => ?_) AllReadyH.nil)
    rw [if_pos (by rfl)]
    go_simp
    go_at_call 43; refine (refMay_at HM).mono ?_; rintro en w2 ⟨rfl, Hb2⟩
    have k5 := (B5.out.drew.below Hb2.out).cell
    refine hK.out _ _ (by simp [k5]) (fun hHeld2 => ?_)
    clear hK K hHeld
    (try simp only [Act.put, List.setIfInBounds_toArray, List.set_cons_zero, List.set_cons_succ])
    refine Held.take_val (i := 2) (some 30) (.bool true) rfl (by rfl) (by kernel_rfl) (by kernel_rfl) (by kernel_rfl) (fun _ _ _ h => h) (fun w hSw => (by (try dsimp only at hSw); go_simp)) hHeld2 ?_
    (try simp only [Act.put, List.setIfInBounds_toArray, List.set_cons_zero, List.set_cons_succ])
    refine Held.take_val (i := 3) (some 31) (.bool true) rfl (by rfl) (by kernel_rfl) (by kernel_rfl) (by kernel_rfl) (fun _ _ _ h => h) (fun w hSw => (by (try dsimp only at hSw); go_simp)) hHeld2 ?_
    (try simp only [Act.put, List.setIfInBounds_toArray, List.set_cons_zero, List.set_cons_succ])
    refine Held.take_pass (i := 4) (some 32) rfl (by rfl) (by kernel_rfl) (by kernel_rfl) (by kernel_rfl) (fun _ _ _ h => h) hHeld2 ?_
    (try simp only [Act.put, List.setIfInBounds_toArray, List.set_cons_zero, List.set_cons_succ])
    refine Held.take_pass (i := 5) (some 33) rfl (by rfl) (by kernel_rfl) (by kernel_rfl) (by kernel_rfl) (fun _ _ _ h => h) hHeld2 ?_
    (try simp only [Act.put, List.setIfInBounds_toArray, List.set_cons_zero, List.set_cons_succ])
    refine Held.take_pass (i := 6) (some 34) rfl (by rfl) (by kernel_rfl) (by kernel_rfl) (by kernel_rfl) (fun _ _ _ h => h) hHeld2 ?_
    (try simp only [Act.put, List.setIfInBounds_toArray, List.set_cons_zero, List.set_cons_succ])
    refine Held.take_pass (i := 7) (some 35) rfl (by rfl) (by kernel_rfl) (by kernel_rfl) (by kernel_rfl) (fun _ _ _ h => h) hHeld2 ?_
    (try simp only [Act.put, List.setIfInBounds_toArray, List.set_cons_zero, List.set_cons_succ])
    refine Held.take_val (i := 8) (some 36) (.bool true) rfl (by rfl) (by kernel_rfl) (by kernel_rfl) (by kernel_rfl) (fun _ _ _ h => h) (fun w hSw => (by (try dsimp only at hSw); go_simp)) hHeld2 ?_
    (try simp only [Act.put, List.setIfInBounds_toArray, List.set_cons_zero, List.set_cons_succ])
    refine wpAnyH_done (by kernel_rfl) ?_ _
    have q2 := (B2.out.drew.below Hb2.out).cell
    have f2 := (B2.out.drew.below Hb2.out).frozen
    have HB2 := Lib.hid (HBV.out.drew.trans (Hb2.out.mono (by simpa using HBV.out.size)))
    go_wp2
    exact bodyPost_ret (v := .tuple #[agg4 0 0 0 0, .bool false]) (by simp [results, Try.results42, go_sem, q2, f2]) rfl ⟨rfl, below_set4 HB2.out (Nat.le_succ _) _ _ _ _⟩
  | true =>
    go_region_held3 (fun w' => w'.cell? ⟨W.heap.size + 1 + 1, 0, none⟩ = some (.int .i64 s1) ∧ w'.cell? ⟨W.heap.size + 1 + 1, 1, none⟩ = some (.int .i64 s2) ∧ w'.cell? ⟨W.heap.size + 1 + 1, 2, none⟩ = some (.int .i64 s3) ∧ w'.cell? ⟨W.heap.size + 1 + 1, 3, none⟩ = some (.int .i64 s4) ∧ w'.cell? ⟨W.heap.size, 0, none⟩ = some (.int .u64 s0) ∧ w'.cell? ⟨W.heap.size, 1, none⟩ = some (.int .u64 s1) ∧ w'.cell? ⟨W.heap.size, 2, none⟩ = some (.int .u64 s2) ∧ w'.cell? ⟨W.heap.size, 3, none⟩ = some (.int .u64 s3) ∧ w'.cell? ⟨W.heap.size, 4, none⟩ = some (.int .u64 s4) ∧ w'.cell? ⟨W.heap.size, 5, none⟩ = some (.int .u64 s5) ∧ w'.cell? ⟨W.heap.size, 6, none⟩ = some (.int .u64 s6) ∧ w'.cell? ⟨W.heap.size, 7, none⟩ = some (.int .u64 s7))
      (first | go_keep)
      (first
        | (go_at_call 43; refine (refMay_at HM).mono ?_; rintro en w2 ⟨rfl, Hb2⟩; have k5 := (B5.out.drew.below Hb2.out).cell; have k1 := (B1.out.drew.below Hb2.out).cell; simp only [nums, List.map_cons, List.map_nil] at k1)
        | (go_at_call 44; refine (refSector_at HM HK).mono ?_; rintro en w3 ⟨rfl, Hb3⟩; have k5 := ((B5.out.drew.below Hb2.out).below Hb3.out).cell; have k1 := ((B1.out.drew.below Hb2.out).below Hb3.out).cell; simp only [nums, List.map_cons, List.map_nil] at k1))
    have q2 := ((B2.out.drew.below Hb2.out).below Hb3.out).cell
    have f2 := ((B2.out.drew.below Hb2.out).below Hb3.out).frozen
    have HB2 := Lib.hid (HBV.out.drew.trans (Hb2.out.mono (by simpa using HBV.out.size)))
    have HB3 := Lib.hid (HB2.out.trans (Hb3.out.mono HB2.out.size))
    cases b with
    | false =>
      go_wp2
      exact bodyPost_ret (v := .tuple #[agg4 0 0 0 0, .bool false]) (by simp [results, Try.results42, go_sem, q2, f2]) rfl ⟨rfl, below_set4 HB3.out (Nat.le_succ _) _ _ _ _⟩
    | true =>
      go_wp2
      exact bodyPost_ret (v := .tuple #[agg4 s1 s2 s3 s4, .bool true]) (by simp [results, Try.results42, go_sem, q2, f2]) rfl ⟨rfl, below_set4 HB3.out (Nat.le_succ _) _ _ _ _⟩

/-! Both at any sector. -/
theorem some_ret (b : Bool) (x : Anc) : (if b = true then Value.tuple #[agg4 x.n x.e x.a x.w, .bool true] else .tuple #[agg4 0 0 0 0, .bool false]) = ancV (if b = true then some x else none) := by
  cases b <;> rfl
theorem read_any (W : World) (s0 s1 s2 s3 s4 s5 s6 s7 : Int) (u1 : U64 s1) (u2 : U64 s2) (u3 : U64 s3) (u4 : U64 s4) :
    Calls Try.prog 41 #[agg8 s0 s1 s2 s3 s4 s5 s6 s7] W fun en W' => en = .returned (ancV (rdA s0 s1 s2 s3 s4 s5 s6 s7)) ∧ Below W.heap.size W W' := by
  unfold rdA
  cases hm : ancB (lo s1) (lo s2) (lo s3) (lo s4) with
  | false =>
    rw [if_neg (fun h => Bool.false_ne_true h.1)]
    exact read_no W s0 s1 s2 s3 s4 s5 s6 s7 u1 u2 u3 u4 _ _ _ _ rfl rfl rfl rfl hm
  | true =>
    have h := read_ok W s0 s1 s2 s3 s4 s5 s6 s7 u1 u2 u3 u4 _ _ _ _ rfl rfl rfl rfl hm _ rfl _ rfl
    rw [some_ret _ ⟨lo s1, lo s2, lo s3, lo s4⟩] at h
    have e1 : (if decide ([((amark (lo s1) (lo s2) (lo s3) (lo s4) : Nat) : Int), lo s1, lo s2, lo s3, lo s4, 0, 0, 0] = [s0, s1, s2, s3, s4, s5, s6, s7]) = true then some (⟨lo s1, lo s2, lo s3, lo s4⟩ : Anc) else none) =
        (if true = true ∧ ancS (lo s1) (lo s2) (lo s3) (lo s4) = [s0, s1, s2, s3, s4, s5, s6, s7] then some ⟨lo s1, lo s2, lo s3, lo s4⟩ else none) := by
      unfold ancS
      simp only [decide_eq_true_eq, true_and]
    rw [e1] at h
    exact h
theorem refRead_any (W : World) (s0 s1 s2 s3 s4 s5 s6 s7 : Int) (u1 : U64 s1) (u2 : U64 s2) (u3 : U64 s3) (u4 : U64 s4) :
    Calls Try.prog 42 #[agg8 s0 s1 s2 s3 s4 s5 s6 s7] W fun en W' => en = .returned (ancV (rdA s0 s1 s2 s3 s4 s5 s6 s7)) ∧ Below W.heap.size W W' := by
  by_cases h : 4294967296 ≤ s1 ∨ 4294967296 ≤ s2 ∨ 4294967296 ≤ s3 ∨ 4294967296 ≤ s4
  · have e1 : rdA s0 s1 s2 s3 s4 s5 s6 s7 = none := by
      unfold rdA
      rw [if_neg]
      rintro ⟨_, h2⟩
      simp only [ancS, List.cons.injEq] at h2
      obtain ⟨_, h3, h4, h5, h6, _⟩ := h2
      unfold lo at h3 h4 h5 h6
      omega
    rw [e1]
    exact refRead_big W s0 s1 s2 s3 s4 s5 s6 s7 h
  · obtain ⟨v1, _⟩ := u1
    obtain ⟨v2, _⟩ := u2
    obtain ⟨v3, _⟩ := u3
    obtain ⟨v4, _⟩ := u4
    have k1 : lo s1 = s1 := lo_small v1 (by omega)
    have k2 : lo s2 = s2 := lo_small v2 (by omega)
    have k3 : lo s3 = s3 := lo_small v3 (by omega)
    have k4 : lo s4 = s4 := lo_small v4 (by omega)
    have H := refRead_small W s0 s1 s2 s3 s4 s5 s6 s7 v1 v2 v3 v4 (by omega) (by omega) (by omega) (by omega) _ rfl _ rfl _ rfl
    rw [some_ret _ ⟨s1, s2, s3, s4⟩] at H
    have e1 : (if (ancB s1 s2 s3 s4 && decide ([((amark s1 s2 s3 s4 : Nat) : Int), s1, s2, s3, s4, 0, 0, 0] = [s0, s1, s2, s3, s4, s5, s6, s7])) = true then some (⟨s1, s2, s3, s4⟩ : Anc) else none) = rdA s0 s1 s2 s3 s4 s5 s6 s7 := by
      unfold rdA ancS
      rw [k1, k2, k3, k4]
      simp only [Bool.and_eq_true, decide_eq_true_eq]
    rw [e1] at H
    exact H
end Go.Proofs.Ytmeoiennniknlaa.Anchor
