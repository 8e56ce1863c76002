/- The walk of the statement FramesOne. For the rows: an argument that is a frame, or a slice of frames, read as cells. -/
import Derived.Test.YtmeoiennniknlaaFrB
import Derived.Test.YtmeoiennniknlaaLib0
import Derived.Lib.SmallJoins
namespace Go.Proofs.Ytmeoiennniknlaa.Frames
open Go.RowKit Go.Shelf Go.Proofs.YtmeoiennniknlaaW.PrintWords Go.Proofs.Ytmeoiennniknlaa.Lb Go.Proofs.Ytmeoiennniknlaa.Sums
set_option linter.unusedVariables false
set_option linter.unusedSimpArgs false

theorem k_lit (W : World) (f : Fr) {A : Option Addr} {c : Nat} (hc : f.f1.length ≤ c) (h : (Kd.int .u64).C W A f.f1.length f.f1) :
    kF.C (W.alloc (.cells #[.int .i64 f.f0, .slice A f.f1.length c] 40)) (some ⟨W.heap.size, 0, none⟩) ([f] : List Fr).length [f] := by
  refine ⟨rfl, by simp, fun _ => ⟨_, rfl, fun j p hp => ?_⟩⟩
  obtain ⟨hj, rfl⟩ := List.getElem?_eq_some_iff.1 hp
  have hj0 : j = 0 := by simp at hj; exact hj
  subst hj0
  refine ⟨[.int .i64 f.f0, .slice A f.f1.length c], rfl, PFramesGet.k40_mk _ f hc (Kd.C_below h ((Below.refl _ _).alloc (Nat.le_refl _) _)), fun i u hu => ?_⟩
  rcases i with _ | _ | i
  · simp at hu; subst hu; simp [go_sem, Addr.add]
  · simp at hu; subst hu; simp [go_sem, Addr.add]
  · simp at hu

theorem great_one (W : World) (k : Int) (l : List Int) (A : Option Addr) (c : Nat) (hc : l.length ≤ c) (h : (Kd.int .u64).C W A l.length l) :
    Calls Try.prog 26 #[.slice (some ⟨W.heap.size, 0, none⟩) 1 1] (W.alloc (.cells #[.int .i64 k, .slice A l.length c] 40)) fun e w' => e = .returned (.bool (decide (2100 < l.length))) ∧ Below W.heap.size W w' := by
  have hB := (Below.refl _ W).alloc (Nat.le_refl _) (.cells #[.int .i64 k, .slice A l.length c] 40)
  refine (great_any _ _ 1 [⟨k, l⟩] (by simp) (k_lit W ⟨k, l⟩ hc h)).mono ?_
  rintro e w' ⟨rfl, rfl⟩
  exact ⟨by simp [greatB], hB⟩

theorem same_one (W : World) (k : Int) (l : List Int) (hl : l.length ≤ 9000000) (A A2 : Option Addr) (c c2 : Nat) (hc : l.length ≤ c) (h : (Kd.int .u64).C W A l.length l) (hc2 : l.length ≤ c2) (h2 : (Kd.int .u64).C W A2 l.length l) :
    Calls Try.prog 34 #[.slice (some ⟨W.heap.size, 0, none⟩) 1 1, .slice (some ⟨W.heap.size + 1, 0, none⟩) 1 1]
      ((W.alloc (.cells #[.int .i64 k, .slice A l.length c] 40)).alloc (.cells #[.int .i64 k, .slice A2 l.length c2] 40)) fun e w' => e = .returned (.bool true) ∧ Below W.heap.size W w' := by
  have hB := (Below.refl _ W).alloc (Nat.le_refl _) (.cells #[.int .i64 k, .slice A l.length c] 40)
  have hB2 := hB.alloc (hB.size) (.cells #[.int .i64 k, .slice A2 l.length c2] 40)
  have hs : (W.alloc (.cells #[.int .i64 k, .slice A l.length c] 40)).heap.size = W.heap.size + 1 := by simp
  have h1 := Kd.C_below (k_lit W ⟨k, l⟩ hc h) ((Below.refl _ _).alloc (Nat.le_refl _) (.cells #[.int .i64 k, .slice A2 l.length c2] 40))
  have h3 := k_lit _ ⟨k, l⟩ hc2 (Kd.C_below h2 hB)
  rw [hs] at h3
  refine (same_any _ _ _ 1 1 [⟨k, l⟩] (by simp) (by intro f hf; simp at hf; subst hf; show l.length < _; omega) h1 (by simp) h3 (by simp)).mono ?_
  rintro e w' ⟨rfl, hb⟩
  exact ⟨rfl, hB2.trans (hb.mono hB2.size)⟩

/-- The plain law: what is put is told, whatever stands behind. -/
theorem get_put {e n k : Nat} (he : e < 4294967296) (hn : n < 4294967296) (hk1 : 1 ≤ k) (hk2 : k ≤ 255) (l more : List Int) (hlen : l.length ≤ 2000) :
    getR (e : Int) (n : Int) ((((fmark e n k l : Nat) : Int) :: l) ++ more) = some (⟨(k : Int), l⟩, 1 + l.length) := by
  obtain ⟨h1, h2, _, h4⟩ := mark_open (k := k) (n := l.length) (by omega) (by omega) (e :: n :: l.map Int.toNat)
  have hf : fmark e n k l = Sums.mark k l.length (e :: n :: l.map Int.toNat) := rfl
  rw [← hf] at h1 h2 h4
  have hne : ¬(((((fmark e n k l : Nat) : Int) :: l) ++ more).length = 0 ∨ numB (e : Int) = false ∨ numB (n : Int) = false) := by
    rintro (h | h | h)
    · simp at h
    · rw [numB_true.2 ⟨by omega, by omega⟩] at h; cases h
    · rw [numB_true.2 ⟨by omega, by omega⟩] at h; cases h
  have hw : ((((((fmark e n k l : Nat) : Int) :: l) ++ more).take (1 + l.length)).drop 1) = l := by
    rw [List.cons_append, Nat.add_comm, List.take_succ_cons, List.drop_succ_cons, List.drop_zero, List.take_left]
  rw [getR_some hne (x := fmark e n k l) (by simp) h1 h2 hw, if_neg]
  rintro (h | h | h)
  · simp at h; omega
  · rw [mayB_true.2 (by omega)] at h; cases h
  · apply h; simp

/-- frames.Get at what was put. -/
theorem get_at {w : World} {e n k L : Nat} {A : Option Addr} {c : Nat} {l more xs : List Int} (hxs : Hid ((((fmark e n k l : Nat) : Int) :: l) ++ more = xs)) (hL : xs.length = L) (hws : Hid (WS xs)) (he : e < 4294967296) (hn : n < 4294967296) (hk1 : 1 ≤ k) (hk2 : k ≤ 255) (hlen : l.length ≤ 2000) (hmore : more.length ≤ 100) (hc : L ≤ c) (hC : Hid ((Kd.int .u64).C w A L xs)) {p : Nat} (hp : Hid (p = l.length + 1)) :
    Calls Try.prog 31 #[.int .i64 (e : Int), .int .i64 (n : Int), .slice A L c] w fun en w' => ∃ A1 c1, en = .returned (.tuple #[.agg #[.int .i64 (k : Int), .slice A1 l.length c1], .int .i64 (p : Int), .bool true]) ∧ l.length ≤ c1 ∧ Hid ((Kd.int .u64).C w' A1 l.length l) ∧ Hid (Below w.heap.size w w') := by
  have h1 : xs.length ≤ 2101 := by rw [← hxs.out]; simp; omega
  subst hL
  refine (get_any w e n A c xs hws.out (by omega) hc hC.out).mono fun en w' h => ?_
  rw [← hxs.out, get_put he hn hk1 hk2 l more hlen] at h
  obtain ⟨A1, c1, h2, h3, h4, _, h5⟩ := h
  refine ⟨A1, c1, ?_, h3, Lib.hid h4, Lib.hid h5⟩
  rw [h2, hp.out, Nat.add_comm]

theorem fmark_lt {e n k : Nat} {l : List Int} (hk : k < 256) (hlen : l.length ≤ 2000) : fmark e n k l < 18446744073709551616 := (mark_open (k := k) (n := l.length) hk (by omega) (e :: n :: l.map Int.toNat)).2.2.2
theorem WS_put {e n k : Nat} {l : List Int} (hk : k < 256) (hlen : l.length ≤ 2000) (hl : WS l) : WS (((fmark e n k l : Nat) : Int) :: l) := by
  intro x hx
  rcases List.mem_cons.1 hx with rfl | hx
  · have := fmark_lt (e := e) (n := n) (l := l) hk hlen
    omega
  · exact hl x hx
theorem WS_append {a b : List Int} (ha : WS a) (hb : WS b) : WS (a ++ b) := by
  intro x hx
  rcases List.mem_append.1 hx with h | h
  · exact ha x h
  · exact hb x h

/-- The statement's walk where it looks no further. -/
theorem one_out (w : World) (e n kd : Int) (A A2 : Option Addr) (c c2 m2 : Nat) (l : List Int) (hc : l.length ≤ c) (hm2 : m2 ≤ 140737488351232) (hC : (Kd.int .u64).C w A l.length l) (h : 2100 < l.length ∨ 100 < m2) :
    Calls Try.prog 7 #[.int .i64 e, .int .i64 n, .agg #[.int .i64 kd, .slice A l.length c], .slice A2 m2 c2] w fun en w' => en = .returned (.bool true) ∧ Below w.heap.size w w' := by
  have HB := Lib.hid ((Below.refl w.heap.size w).alloc (Nat.le_refl _) (.cells #[.int .i64 kd, .slice A l.length c] 40))
  have HC := Lib.hid hC
  have p0 : (w.alloc (.cells #[.int .i64 kd, .slice A l.length c] 40)).cell? ⟨w.heap.size, 0, none⟩ = some (.int .i64 kd) := by simp [go_sem]
  have p1 : (w.alloc (.cells #[.int .i64 kd, .slice A l.length c] 40)).cell? ⟨w.heap.size, 1, none⟩ = some (.slice A l.length c) := by simp [go_sem]
  have hs0 : w.heap.size < (w.alloc (.cells #[.int .i64 kd, .slice A l.length c] 40)).heap.size := by simp
  obtain ⟨b, hb⟩ : ∃ b, b = decide (2100 < l.length) := ⟨_, rfl⟩
  have Hbd := Lib.hid hb
  have h2 : b = true ∨ (b = false ∧ (100 : Int) < (m2 : Int)) := by
    rw [hb]
    by_cases h1 : 2100 < l.length
    · exact Or.inl (decide_eq_true h1)
    · exact Or.inr ⟨decide_eq_false h1, by omega⟩
  clear hb hC h
  rcases h2 with rfl | ⟨rfl, h2⟩
  all_goals
    go_enter Try.func7, Try.ntmps7
    go_wp2_with (first
      | (go_at_call 25; (with_reducible refine (alive6_any _).mono ?_); rintro en w1 ⟨rfl, hb⟩; have q0 := (hb.cell (p := ⟨w.heap.size, 0, none⟩) hs0).trans p0; have q1 := (hb.cell (p := ⟨w.heap.size, 1, none⟩) hs0).trans p1; have Hb1 := Lib.hid (HB.out.trans (hb.mono HB.out.size)); clear hb)
      | (go_at_call 26; (with_reducible refine (great_one _ _ _ _ _ hc (Kd.C_below HC.out Hb1.out)).mono ?_); rw [← Hbd.out]; rintro en w2 ⟨rfl, hb⟩; have Hb2 := Lib.hid (Hb1.out.trans (hb.mono Hb1.out.size)); clear hb))
    go_ret
    exact ⟨rfl, Hb2.out⟩

section
variable (w : World) (kd : Int) (A : Option Addr) (c : Nat) (l : List Int)
abbrev boxW : World := w.alloc (.cells #[.int .i64 kd, .slice A l.length c] 40)
end

set_option maxRecDepth 100000 in
set_option maxHeartbeats 2000000 in
theorem one_bad (w : World) (e n kd : Int) (A A2 : Option Addr) (c c2 m2 : Nat) (l : List Int) (hc : l.length ≤ c) (hm : l.length ≤ 2100) (hm2 : m2 ≤ 100) (hC : (Kd.int .u64).C w A l.length l) (h : mayB kd l.length = false ∨ numB e = false ∨ numB n = false) :
    Calls Try.prog 7 #[.int .i64 e, .int .i64 n, .agg #[.int .i64 kd, .slice A l.length c], .slice A2 m2 c2] w fun en w' => en = .returned (.bool true) ∧ Below w.heap.size w w' := by
  have HB := Lib.hid ((Below.refl w.heap.size w).alloc (Nat.le_refl _) (.cells #[.int .i64 kd, .slice A l.length c] 40))
  have HC := Lib.hid hC
  have p0 : (w.alloc (.cells #[.int .i64 kd, .slice A l.length c] 40)).cell? ⟨w.heap.size, 0, none⟩ = some (.int .i64 kd) := by simp [go_sem]
  have p1 : (w.alloc (.cells #[.int .i64 kd, .slice A l.length c] 40)).cell? ⟨w.heap.size, 1, none⟩ = some (.slice A l.length c) := by simp [go_sem]
  have hs0 : w.heap.size < (w.alloc (.cells #[.int .i64 kd, .slice A l.length c] 40)).heap.size := by simp
  have Hbd := Lib.hid (decide_eq_false (by omega) : decide (2100 < l.length) = false)
  have hm2i : (m2 : Int) ≤ 100 := by omega
  have Hm := Lib.hid hm
  have Hbad := Lib.hid h
  obtain ⟨b0, hb0⟩ : ∃ b, mayB kd l.length = b := ⟨_, rfl⟩
  obtain ⟨b1, hb1⟩ : ∃ b, numB e = b := ⟨_, rfl⟩
  obtain ⟨b2, hb2⟩ : ∃ b, numB n = b := ⟨_, rfl⟩
  have Hb0 := Lib.hid hb0
  have He := Lib.hid hb1
  have Hn := Lib.hid hb2
  rw [hb0, hb1, hb2] at h
  clear hb0 hb1 hb2 hC hm
  have h3 : (b0 = false) ∨ (b0 = true ∧ b1 = false) ∨ (b0 = true ∧ b1 = true ∧ b2 = false) := by
    clear Hb0 He Hn
    revert h
    cases b0 <;> cases b1 <;> cases b2 <;> simp
  clear h
  rcases h3 with rfl | ⟨rfl, rfl⟩ | ⟨rfl, rfl, rfl⟩
  all_goals
    go_enter Try.func7, Try.ntmps7
    go_wp2_with (first
      | (go_at_call 25; (with_reducible refine (alive6_any _).mono ?_); rintro en w1 ⟨rfl, hb⟩; have q0 := (hb.cell (p := ⟨w.heap.size, 0, none⟩) hs0).trans p0; have q1 := (hb.cell (p := ⟨w.heap.size, 1, none⟩) hs0).trans p1; have hs1 := Nat.lt_of_lt_of_le hs0 hb.size; have Hb1 := Lib.hid (HB.out.trans (hb.mono HB.out.size)); clear hb)
      | (go_at_call 26; (with_reducible refine (great_one _ _ _ _ _ hc (Kd.C_below HC.out Hb1.out)).mono ?_); rw [Hbd.out]; rintro en w2 ⟨rfl, hb⟩; have r0 := (hb.cell (p := ⟨w.heap.size, 0, none⟩) hs1).trans q0; have r1 := (hb.cell (p := ⟨w.heap.size, 1, none⟩) hs1).trans q1; have hs2 := Nat.lt_of_lt_of_le hs1 hb.size; have Hb2 := Lib.hid (Hb1.out.trans (hb.mono Hb1.out.size)); clear hb)
      | (go_at_call 27; (with_reducible refine (put_none _ _ _ _ _ _ _ (by have := Hm.out; omega) Hbad.out).mono ?_); rintro en w3 ⟨rfl, hb⟩; have s0 := (hb.cell (p := ⟨w.heap.size, 0, none⟩) hs2).trans r0; have s1 := (hb.cell (p := ⟨w.heap.size, 1, none⟩) hs2).trans r1; have hs3 := Nat.lt_of_lt_of_le hs2 hb.size; have Hb3 := Lib.hid (Hb2.out.trans (hb.mono Hb2.out.size)); clear hb)
      | (go_at_call 28; (with_reducible refine (refMay_any _ _ _ _ _ (by have := Hm.out; omega)).mono ?_); rw [Hb0.out]; rintro en w4 ⟨rfl, hb⟩; have t0 := (hb.cell (p := ⟨w.heap.size, 0, none⟩) hs3).trans s0; have t1 := (hb.cell (p := ⟨w.heap.size, 1, none⟩) hs3).trans s1; have hs4 := Nat.lt_of_lt_of_le hs3 hb.size; have Hb4 := Lib.hid (Hb3.out.trans (hb.mono Hb3.out.size)); clear hb)
      | (go_at_call 29; (with_reducible refine (refNumber_at He).mono ?_); rintro en w5 ⟨rfl, rfl⟩)
      | (go_at_call 29; (with_reducible refine (refNumber_at Hn).mono ?_); rintro en w5 ⟨rfl, rfl⟩))
    clear p0 p1 q0 q1 r0 r1 s0 s1
    have Hb5 : Hid (Below w4.heap.size w4 w4.drew) := Lib.hid (Below.refl _ _).drew
    have Hc5 : Hid (Below w.heap.size w w4.drew) := Lib.hid Hb4.out.drew
    go_region_held3 (fun w' => w'.cell? ⟨w.heap.size, 0, none⟩ = some (.int .i64 kd) ∧ w'.cell? ⟨w.heap.size, 1, none⟩ = some (.slice A l.length c))
      (first | go_keep)
      (first
        | (go_at_call 30; refine (may_any _ _ _ _ _ (by have := Hm.out; omega)).mono ?_; rw [Hb0.out]; rintro en w7 ⟨rfl, hb⟩; have k0 := (hb.cell (p := ⟨w.heap.size, 0, none⟩) js).trans j0; have k1 := (hb.cell (p := ⟨w.heap.size, 1, none⟩) js).trans j1; have HK := Lib.hid (HJ.out.trans (hb.mono HJ.out.size)); clear hb)
        | (go_at_call 28; refine (refMay_any _ _ _ _ _ (by have := Hm.out; omega)).mono ?_; rw [Hb0.out]; rintro en w7 ⟨rfl, hb⟩; have k0 := (hb.cell (p := ⟨w.heap.size, 0, none⟩) js).trans j0; have k1 := (hb.cell (p := ⟨w.heap.size, 1, none⟩) js).trans j1; have HK := Lib.hid (HJ.out.trans (hb.mono HJ.out.size)); clear hb)
        | (go_at_call 30; refine (may_any _ _ _ _ _ (by have := Hm.out; omega)).mono ?_; rw [Hb0.out]; rintro en w7 ⟨rfl, hb⟩; have j0 := (hb.cell (p := ⟨w.heap.size, 0, none⟩) hs4).trans t0; have j1 := (hb.cell (p := ⟨w.heap.size, 1, none⟩) hs4).trans t1; have js := Nat.lt_of_lt_of_le hs4 hb.size; have HJ := Lib.hid (Hb4.out.drew.trans (hb.mono Hb4.out.size)); clear hb)
        | (go_at_call 28; refine (refMay_any _ _ _ _ _ (by have := Hm.out; omega)).mono ?_; rw [Hb0.out]; rintro en w7 ⟨rfl, hb⟩; have j0 := (hb.cell (p := ⟨w.heap.size, 0, none⟩) hs4).trans t0; have j1 := (hb.cell (p := ⟨w.heap.size, 1, none⟩) hs4).trans t1; have js := Nat.lt_of_lt_of_le hs4 hb.size; have HJ := Lib.hid (Hb4.out.drew.trans (hb.mono Hb4.out.size)); clear hb))
    all_goals
      go_wp2
      go_ret
      exact ⟨by simp, HK.out⟩

set_option maxRecDepth 100000 in
set_option maxHeartbeats 4000000 in
theorem one_main (w : World) (e n k : Nat) (he : e < 4294967296) (hn : n < 4294967296) (hk1 : 1 ≤ k) (hk2 : k ≤ 255) (A A2 : Option Addr) (c c2 : Nat) (l more : List Int) (hl : WS l) (hmo : WS more) (hc : l.length ≤ c) (hlen : l.length ≤ 2000) (hmore : more.length ≤ 100) (hC : (Kd.int .u64).C w A l.length l) (hC2 : (Kd.int .u64).C w A2 more.length more) :
    Calls Try.prog 7 #[.int .i64 (e : Int), .int .i64 (n : Int), .agg #[.int .i64 (k : Int), .slice A l.length c], .slice A2 more.length c2] w fun en w' => en = .returned (.bool true) ∧ Below w.heap.size w w' := by
  have HB := Lib.hid ((Below.refl w.heap.size w).alloc (Nat.le_refl _) (.cells #[.int .i64 (k : Int), .slice A l.length c] 40))
  have HC := Lib.hid hC
  have HC2 := Lib.hid hC2
  have HL := Lib.hid hl
  have p0 : (w.alloc (.cells #[.int .i64 (k : Int), .slice A l.length c] 40)).cell? ⟨w.heap.size, 0, none⟩ = some (.int .i64 (k : Int)) := by simp [go_sem]
  have p1 : (w.alloc (.cells #[.int .i64 (k : Int), .slice A l.length c] 40)).cell? ⟨w.heap.size, 1, none⟩ = some (.slice A l.length c) := by simp [go_sem]
  have hs0 : w.heap.size < (w.alloc (.cells #[.int .i64 (k : Int), .slice A l.length c] 40)).heap.size := by simp
  have Hbd := Lib.hid (decide_eq_false (by omega) : decide (2100 < l.length) = false)
  have hm2i : (more.length : Int) ≤ 100 := by omega
  have Hb0 := Lib.hid (mayB_true.2 ⟨by omega, by omega, hlen⟩ : mayB (k : Int) l.length = true)
  have He := Lib.hid (numB_true.2 ⟨by omega, by omega⟩ : numB (e : Int) = true)
  have Hn := Lib.hid (numB_true.2 ⟨by omega, by omega⟩ : numB (n : Int) = true)
  obtain ⟨p, hp⟩ : ∃ p, p = l.length + 1 := ⟨_, rfl⟩
  obtain ⟨ys, hys⟩ : ∃ ys, ys = ((fmark e n k l : Nat) : Int) :: l := ⟨_, rfl⟩
  have hyl : ys.length = p := by rw [hys, hp]; rfl
  obtain ⟨xs, hxs⟩ : ∃ xs, ys ++ more = xs := ⟨_, rfl⟩
  have hxl : xs.length = p + more.length := by rw [← hxs, List.length_append, hyl]
  have HX := Lib.hid (show (((fmark e n k l : Nat) : Int) :: l) ++ more = xs by rw [← hys]; exact hxs)
  have HXS := Lib.hid hxs
  have HWX : Hid (WS xs) := Lib.hid (by rw [← hxs, hys]; exact WS_append (WS_put (by omega) hlen hl) hmo)
  have Hyl := Lib.hid hyl
  have Hxl := Lib.hid hxl
  have Hp := Lib.hid hp
  have Hput : Hid (∀ W, Hid (Below w.heap.size w W) → Calls Try.prog 27 #[.int .i64 (e : Int), .int .i64 (n : Int), .agg #[.int .i64 (k : Int), .slice A l.length c]] W fun en w' => ∃ A1 c1, en = .returned (.slice A1 p c1) ∧ p ≤ c1 ∧ Hid ((Kd.int .u64).C w' A1 p ys) ∧ Below W.heap.size W w') := Lib.hid (by
    intro W hW
    refine (put_any W e n k he hn hk1 hk2 A c l hl hlen (Kd.C_below hC hW.out)).mono fun en w' h => ?_
    rw [← hp, ← hys] at h
    obtain ⟨A1, c1, h1, h2, h3, _, h5⟩ := h
    exact ⟨A1, c1, h1, h2, h3, h5⟩)
  have Hrput : Hid (∀ W, Hid (Below w.heap.size w W) → Calls Try.prog 33 #[.int .i64 (e : Int), .int .i64 (n : Int), .agg #[.int .i64 (k : Int), .slice A l.length c]] W fun en w' => ∃ A1 c1, en = .returned (.slice A1 p c1) ∧ p ≤ c1 ∧ Hid ((Kd.int .u64).C w' A1 p ys) ∧ Below W.heap.size W w') := Lib.hid (by
    intro W hW
    refine (refPut_any W e n k he hn (by omega) A c l hl hlen (Kd.C_below hC hW.out)).mono fun en w' h => ?_
    rw [← hp, ← hys] at h
    obtain ⟨A1, c1, h1, h2, h3, _, h5⟩ := h
    exact ⟨A1, c1, h1, h2, h3, h5⟩)
  have Hwords : Hid (∀ W A0 A1 c0 c1, Hid ((Kd.int .u64).C W A0 p ys) → Hid ((Kd.int .u64).C W A1 p ys) → Calls Try.prog 32 #[.slice A0 p c0, .slice A1 p c1] W fun en w' => en = .returned (.bool true) ∧ Below W.heap.size W w') := Lib.hid (by
    intro W A0 A1 c0 c1 h1 h2
    have := words_any W A0 A1 c0 c1 ys (by omega) (by rw [hyl]; exact h1.out) (by rw [hyl]; exact h2.out)
    rw [hyl] at this
    exact this)
  clear hp hys hyl hxs hxl hC hC2 hl hmo
  go_enter Try.func7, Try.ntmps7
  go_wp2_with (first
    | (go_at_call 25; (with_reducible refine (alive6_any _).mono ?_); rintro en w1 ⟨rfl, hb⟩; have q0 := (hb.cell (p := ⟨w.heap.size, 0, none⟩) hs0).trans p0; have q1 := (hb.cell (p := ⟨w.heap.size, 1, none⟩) hs0).trans p1; have hs1 := Nat.lt_of_lt_of_le hs0 hb.size; have Hb1 := Lib.hid (HB.out.trans (hb.mono HB.out.size)); clear hb)
    | (go_at_call 26; (with_reducible refine (great_one _ _ _ _ _ hc (Kd.C_below HC.out Hb1.out)).mono ?_); rw [Hbd.out]; rintro en w2 ⟨rfl, hb⟩; have r0 := (hb.cell (p := ⟨w.heap.size, 0, none⟩) hs1).trans q0; have r1 := (hb.cell (p := ⟨w.heap.size, 1, none⟩) hs1).trans q1; have hs2 := Nat.lt_of_lt_of_le hs1 hb.size; have Hb2 := Lib.hid (Hb1.out.trans (hb.mono Hb1.out.size)); clear hb)
    | (go_at_call 27; (with_reducible refine (Hput.out _ Hb2).mono ?_); rintro en w3 ⟨A1, c1, rfl, hl1, HC3, hb⟩; have s0 := (hb.cell (p := ⟨w.heap.size, 0, none⟩) hs2).trans r0; have s1 := (hb.cell (p := ⟨w.heap.size, 1, none⟩) hs2).trans r1; have hs3 := Nat.lt_of_lt_of_le hs2 hb.size; have Hb3 := Lib.hid (Hb2.out.trans (hb.mono Hb2.out.size)); clear hb)
    | (go_at_call 28; (with_reducible refine (refMay_any _ _ _ _ _ (by omega)).mono ?_); rw [Hb0.out]; rintro en w4 ⟨rfl, hb⟩; have t0 := (hb.cell (p := ⟨w.heap.size, 0, none⟩) hs3).trans s0; have t1 := (hb.cell (p := ⟨w.heap.size, 1, none⟩) hs3).trans s1; have hs4 := Nat.lt_of_lt_of_le hs3 hb.size; have Hb4 := Lib.hid (Hb3.out.trans (hb.mono Hb3.out.size)); have HC4 := Lib.hid (Kd.C_below HC3.out hb); have HBR := Lib.hid (Below.refl w4.heap.size w4); have HC24 := Kd.C_below HC2.out Hb4.out; clear hb)
    | (go_at_call 29; (with_reducible refine (refNumber_at He).mono ?_); rintro en w5 ⟨rfl, rfl⟩)
    | (go_at_call 29; (with_reducible refine (refNumber_at Hn).mono ?_); rintro en w5 ⟨rfl, rfl⟩)
    | (at_builtin; refine app_lit_ints (w0 := w4) .u64 23 30 8 Try.underlying23 infoU64 (by omega) rfl _ _ rfl [] ys ys A1 p c1 p 0 _ rfl rfl rfl rfl HC4 HBR rfl Hyl.out (by have := Hp.out; omega) ?_; intro A5 c5 w5 hl5 HC5 HR5 Hb5)
    | (at_builtin; refine app_ints (w0 := w4) .u64 23 30 8 Try.underlying23 infoU64 (by omega) rfl _ _ rfl _ ys more xs A2 more.length c2 (p + more.length) rfl rfl HR5.out (Kd.C_below HC24 Hb5.out) Hb5.out HXS.out Hxl.out (by have := Hp.out; omega) ?_; intro A6 c6 w6 hl6 hC6 hR6 hb6; have HC6 := Lib.hid hC6; have u0 := (hb6.cell (p := ⟨w.heap.size, 0, none⟩) hs4).trans t0; have u1 := (hb6.cell (p := ⟨w.heap.size, 1, none⟩) hs4).trans t1; have hs6 := Nat.lt_of_lt_of_le hs4 hb6.size; have Hb6 := Lib.hid (Hb4.out.trans (hb6.mono Hb4.out.size)); have HC16 := Lib.hid (Kd.C_below HC4.out hb6); clear hC6 hR6 hb6)
    | (go_at_call 31; (with_reducible refine (get_at HX Hxl.out HWX he hn hk1 hk2 hlen hmore hl6 HC6 Hp).mono ?_); rintro en w7 ⟨A7, c7, rfl, hl7, HC7, Hb⟩; have v0 := (Hb.out.cell (p := ⟨w.heap.size, 0, none⟩) hs6).trans u0; have v1 := (Hb.out.cell (p := ⟨w.heap.size, 1, none⟩) hs6).trans u1; have hs7 := Nat.lt_of_lt_of_le hs6 Hb.out.size; have Hb7 := Lib.hid (Hb6.out.trans (Hb.out.mono Hb6.out.size)); have HC17 := Lib.hid (Kd.C_below HC16.out Hb.out); have y0 : (w7.alloc (.cells #[.int .i64 (k : Int), .slice A7 l.length c7] 40)).cell? ⟨w.heap.size, 0, none⟩ = some (.int .i64 (k : Int)) := (World.cell?_alloc_lt _ _ _ hs7).trans v0; have y1 : (w7.alloc (.cells #[.int .i64 (k : Int), .slice A7 l.length c7] 40)).cell? ⟨w.heap.size, 1, none⟩ = some (.slice A l.length c) := (World.cell?_alloc_lt _ _ _ hs7).trans v1; have y2 : (w7.alloc (.cells #[.int .i64 (k : Int), .slice A7 l.length c7] 40)).cell? ⟨w7.heap.size, 0, none⟩ = some (.int .i64 (k : Int)) := (by simp [go_sem]); have y3 : (w7.alloc (.cells #[.int .i64 (k : Int), .slice A7 l.length c7] 40)).cell? ⟨w7.heap.size, 1, none⟩ = some (.slice A7 l.length c7) := (by simp [go_sem]); have hs8 : w7.heap.size < (w7.alloc (.cells #[.int .i64 (k : Int), .slice A7 l.length c7] 40)).heap.size := (by simp); have Hb8 : Hid (Below w.heap.size w (w7.alloc (.cells #[.int .i64 (k : Int), .slice A7 l.length c7] 40))) := Lib.hid (Hb7.out.alloc Hb7.out.size _); have HC18 : Hid ((Kd.int .u64).C (w7.alloc (.cells #[.int .i64 (k : Int), .slice A7 l.length c7] 40)) A1 p ys) := Lib.hid (Kd.C_below HC17.out ((Below.refl _ _).alloc (Nat.le_refl _) _)); have HC78 : Hid ((Kd.int .u64).C (w7.alloc (.cells #[.int .i64 (k : Int), .slice A7 l.length c7] 40)) A7 l.length l) := Lib.hid (Kd.C_below HC7.out ((Below.refl _ _).alloc (Nat.le_refl _) _)); clear Hb)
    | (go_at_call 30; (with_reducible refine (may_any _ _ _ _ _ (by omega)).mono ?_); rw [Hb0.out]; rintro en w9 ⟨rfl, hb⟩; have a0 := (hb.cell (p := ⟨w.heap.size, 0, none⟩) (Nat.lt_trans hs7 hs8)).trans y0; have a1 := (hb.cell (p := ⟨w.heap.size, 1, none⟩) (Nat.lt_trans hs7 hs8)).trans y1; have a2 := (hb.cell (p := ⟨w7.heap.size, 0, none⟩) hs8).trans y2; have a3 := (hb.cell (p := ⟨w7.heap.size, 1, none⟩) hs8).trans y3; have hs9 := Nat.lt_of_lt_of_le hs8 hb.size; have Hb9 := Lib.hid (Hb8.out.trans (hb.mono Hb8.out.size)); have HC19 := Lib.hid (Kd.C_below HC18.out hb); have HC79 := Lib.hid (Kd.C_below HC78.out hb); clear hb)
    | (go_at_call 33; (with_reducible refine (Hrput.out _ Hb9).mono ?_); rintro en w10 ⟨A10, c10, rfl, hl10, HC10, hb⟩; have b0 := (hb.cell (p := ⟨w.heap.size, 0, none⟩) (Nat.lt_trans hs7 hs9)).trans a0; have b1 := (hb.cell (p := ⟨w.heap.size, 1, none⟩) (Nat.lt_trans hs7 hs9)).trans a1; have b2 := (hb.cell (p := ⟨w7.heap.size, 0, none⟩) hs9).trans a2; have b3 := (hb.cell (p := ⟨w7.heap.size, 1, none⟩) hs9).trans a3; have hs10 := Nat.lt_of_lt_of_le hs9 hb.size; have Hb10 := Lib.hid (Hb9.out.trans (hb.mono Hb9.out.size)); have HC110 := Lib.hid (Kd.C_below HC19.out hb); have HC710 := Lib.hid (Kd.C_below HC79.out hb); clear hb)
    | (go_at_call 32; (with_reducible refine (Hwords.out _ _ _ _ _ HC110 HC10).mono ?_); rintro en w11 ⟨rfl, hb⟩; have d0 := (hb.cell (p := ⟨w.heap.size, 0, none⟩) (Nat.lt_trans hs7 hs10)).trans b0; have d1 := (hb.cell (p := ⟨w.heap.size, 1, none⟩) (Nat.lt_trans hs7 hs10)).trans b1; have d2 := (hb.cell (p := ⟨w7.heap.size, 0, none⟩) hs10).trans b2; have d3 := (hb.cell (p := ⟨w7.heap.size, 1, none⟩) hs10).trans b3; have hs11 := Nat.lt_of_lt_of_le hs10 hb.size; have Hb11 := Lib.hid (Hb10.out.trans (hb.mono Hb10.out.size)); have HC711 := Lib.hid (Kd.C_below HC710.out hb); clear hb)
    | (go_at_call 34; (with_reducible refine (same_one w11 k l (by omega) A A7 c c7 hc (Kd.C_below HC.out Hb11.out) hl7 HC711.out).mono ?_); rintro en w12 ⟨rfl, hb⟩; have Hb12 := Lib.hid (Hb11.out.trans (hb.mono Hb11.out.size)); clear hb))
  go_ret
  exact ⟨rfl, Hb12.out⟩

/-- The statement's walk, whatever the input. -/
theorem one_any (w : World) (e n kd : Int) (A A2 : Option Addr) (c c2 : Nat) (l more : List Int) (hl : WS l) (hmo : WS more) (hc : l.length ≤ c) (hm2 : more.length ≤ 140737488351232) (hC : (Kd.int .u64).C w A l.length l) (hC2 : (Kd.int .u64).C w A2 more.length more) :
    Calls Try.prog 7 #[.int .i64 e, .int .i64 n, .agg #[.int .i64 kd, .slice A l.length c], .slice A2 more.length c2] w fun en w' => en = .returned (.bool true) ∧ Below w.heap.size w w' := by
  by_cases h1 : 2100 < l.length ∨ 100 < more.length
  · exact one_out w e n kd A A2 c c2 more.length l hc hm2 hC h1
  · by_cases h2 : mayB kd l.length = false ∨ numB e = false ∨ numB n = false
    · exact one_bad w e n kd A A2 c c2 more.length l hc (by omega) (by omega) hC h2
    · have h3 : mayB kd l.length = true ∧ numB e = true ∧ numB n = true := by
        cases g1 : mayB kd l.length <;> cases g2 : numB e <;> cases g3 : numB n <;> simp_all
      obtain ⟨a1, a2, a3⟩ := mayB_true.1 h3.1
      obtain ⟨b1, b2⟩ := numB_true.1 h3.2.1
      obtain ⟨d1, d2⟩ := numB_true.1 h3.2.2
      have h := one_main w e.toNat n.toNat kd.toNat (by omega) (by omega) (by omega) (by omega) A A2 c c2 l more hl hmo hc a3 (by omega) hC hC2
      rw [show ((e.toNat : Nat) : Int) = e by omega, show ((n.toNat : Nat) : Int) = n by omega, show ((kd.toNat : Nat) : Int) = kd by omega] at h
      exact h
end Go.Proofs.Ytmeoiennniknlaa.Frames

namespace Go.Proofs.Ytmeoiennniknlaa
open Go.ChangeShapes Go.WideShapes Go.ChangeAt Go.RowKit Go.Joins Go.Deep
open Go.Proofs.YtmeoiennniknlaaW.PrintWords (Kd)
open Go.Proofs.Ytmeoiennniknlaa.Frames (Fr kF WS)
set_option linter.unusedVariables false

theorem wf_u64 {x : Int} (h : (Lit.int .u64 x).wf = true) : 0 ≤ x ∧ x < 18446744073709551616 := by
  have := Go.bounds_u64 h
  omega
theorem ws_of {l : List Int} (h : ∀ x ∈ l, (Lit.int .u64 x).wf = true) : WS l := fun x hx => wf_u64 (h x hx)

section
variable {H : Type} {enc : TypeId × Value → H} {P : Program} {W : World} {base : Nat} {held : Bool}

/-- A field's slice of whole numbers. -/
theorem fieldSlice {t e : TypeId} {k : IntKind} {n : Nat} {v : Value} {y : DataW H × List MemPlace} (hu : P.underlying t = some (.slice e)) (he : P.underlying e = some (.int k)) (hc : P.cellsOf e = 1)
    (h : DataW.trod enc P W base (fun _ => true) held n t [v] = some y) : ∃ (a : Option Addr) (l : List Int) (cap : Nat), v = .slice a l.length cap ∧ (Kd.int k).C W a l.length l ∧ l.length ≤ maxLen ∧ (∀ x ∈ l, (Lit.int k x).wf = true) ∧ l.length ≤ cap := by
  obtain ⟨a, len, cap, rfl⟩ : ∃ a len cap, v = .slice a len cap := by
    rcases open_ints hu he hc h with ⟨hcs, _⟩ | ⟨x, l, c, zs, hcs, _⟩
    · exact ⟨none, 0, 0, by simpa using hcs⟩
    · exact ⟨some x, l, c, by simpa using hcs⟩
  obtain ⟨l, rfl, h1, h2, h3, h4⟩ := sliceOf (d := y.1) (ps := y.2) hu he hc ⟨n, by simpa [Value.cells] using h⟩
  exact ⟨a, l, cap, rfl, h1, h2, h3, h4⟩

/-- A frame by value. -/
theorem frameOf {r : Reach} {b0 : Nat} {t e : TypeId} {f0 f1 : Field} {v : Value} {d : DataW H} {p : List MemPlace} (hs : P.underlying t = some (.struct #[f0, f1])) (hone : oneCellFields P #[f0, f1] = true) (hC : P.cellsOf t = 2)
    (e0 : P.underlying f0.type = some (.int .i64)) (e1 : P.underlying f1.type = some (.slice e)) (he : P.underlying e = some (.int .u64)) (hc : P.cellsOf e = 1)
    (hv : Value.okWide P W r b0 t v) (h : DataW.Trod enc P W base (fun _ => true) held t v d p) :
    ∃ (x : Int) (a : Option Addr) (l : List Int) (cap : Nat), v = .agg #[.int .i64 x, .slice a l.length cap] ∧ (Kd.int .u64).C W a l.length l ∧ l.length ≤ maxLen ∧ WS l ∧ l.length ≤ cap := by
  obtain ⟨v0, v1, y0, y1, n, rfl, _, _, h0, h1⟩ := open_agg2 hs hone hC hv h
  obtain ⟨x, hx, _⟩ := DataW.trod_int e0 h0
  obtain ⟨a, l, cap, rfl, g1, g2, g3, g4⟩ := fieldSlice e1 he hc h1
  simp only [List.cons.injEq, and_true] at hx
  subst hx
  exact ⟨x, a, l, cap, rfl, g1, g2, ws_of g3, g4⟩
end
namespace Frames
theorem framesOne_law (W : World) (x0 : Int) (w0 : (Lit.int .i64 x0).wf = true) (x1 : Int) (w1 : (Lit.int .i64 x1).wf = true) (x2 : Int) {a2 : Option Addr} {cap2 : Nat} (l2 : List Int) (hm2 : l2.length ≤ maxLen) (hw2 : WS l2) (hc2 : l2.length ≤ cap2) (hr2 : (Kd.int .u64).C W a2 l2.length l2)
    {a3 : Option Addr} {cap3 : Nat} (l3 : List Int) (hm3 : l3.length ≤ maxLen) (y3 : l3.length * 8 ≤ 140737488351232) (hw3 : ∀ x ∈ l3, (Lit.int .u64 x).wf = true) (hc3 : l3.length ≤ cap3) (hr3 : (Kd.int .u64).C W a3 l3.length l3) :
    Calls Try.prog 7 #[.int .i64 x0, .int .i64 x1, .agg #[.int .i64 x2, .slice a2 l2.length cap2], .slice a3 l3.length cap3] W fun e W' => e = .returned (.bool true) ∧ Below W.heap.size W W' :=
  one_any W x0 x1 x2 a2 a3 cap2 cap3 l2 l3 hw2 (ws_of hw3) hc2 (by omega) hr2 hr3
end Frames
end Go.Proofs.Ytmeoiennniknlaa
