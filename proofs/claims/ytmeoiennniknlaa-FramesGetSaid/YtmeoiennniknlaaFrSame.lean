/- The reference's Same at equal lists; Words at equal lists; great; alive; ref May. -/
import Derived.Test.YtmeoiennniknlaaFrRefGet
import Derived.Deep.LoopGhost
namespace Go.Proofs.Ytmeoiennniknlaa.Frames
open Go.RowKit Go.Shelf Go.Proofs.YtmeoiennniknlaaW.PrintWords Go.Proofs.Ytmeoiennniknlaa.Lb Go.Proofs.Ytmeoiennniknlaa.Sums
set_option linter.unusedVariables false
set_option linter.unusedSimpArgs false

theorem w64s {n : Int} (h0 : 0 ≤ n) (h1 : n < 9223372036854775807) : wrap64 (n + 1) = n + 1 := by unfold wrap64; omega

open PFramesGet in
theorem same_in (l : List Fr) (i : Int) (h0 : 0 ≤ i) (h1 : i < (l.length : Int)) (hb : (rd_T40 l i).f1.length < 9000000000000000000) (hi : i < 9000000000000000000)
    (h : ∃ k, gimmalref06_Same.l0 k l l (i + 1) = some true) : ∀ d (j : Nat), j + d = (rd_T40 l i).f1.length → ∃ k, gimmalref06_Same.l1 k l l i (j : Int) = some true
  | 0, j, hd => by
    obtain ⟨k, hk⟩ := h
    refine ⟨k + 1, ?_⟩
    rw [gimmalref06_Same.l1, if_pos h0, if_pos h1, if_neg (by omega), w64s h0 (by omega)]
    exact hk
  | d + 1, j, hd => by
    obtain ⟨k, hk⟩ := same_in l i h0 h1 hb hi h d (j + 1) (by omega)
    refine ⟨k + 1, ?_⟩
    rw [gimmalref06_Same.l1, if_pos h0, if_pos h1, if_pos (by omega), if_pos (by omega), if_pos h1, if_pos (by omega), if_pos rfl, w64s (by omega) (by omega)]
    exact hk
open PFramesGet in
theorem same_out (l : List Fr) (hl : l.length < 9000000000000000000) (hb : ∀ i, (rd_T40 l i).f1.length < 9000000000000000000) : ∀ d (i : Nat), i + d = l.length → ∃ k, gimmalref06_Same.l0 k l l (i : Int) = some true
  | 0, i, hd => ⟨1, by rw [gimmalref06_Same.l0, if_neg (by omega)]⟩
  | d + 1, i, hd => by
    have ih := same_out l hl hb d (i + 1) (by omega)
    obtain ⟨k, hk⟩ := same_in l (i : Int) (by omega) (by omega) (hb _) (by omega) ih (PFramesGet.rd_T40 l i).f1.length 0 (by omega)
    refine ⟨k + 1 + 1, ?_⟩
    rw [gimmalref06_Same.l0, if_pos (by omega), if_pos (by omega), if_pos (by omega), if_pos rfl, gimmalref06_Same.j1, if_neg (by simp)]
    exact hk
theorem same_any (w : World) (A0 A1 : Option Addr) (c0 c1 : Nat) (l : List Fr) (hl : l.length < 9000000000000000000) (hb : ∀ f ∈ l, f.f1.length < 9000000000000000000) (hC0 : kF.C w A0 l.length l) (hc0 : l.length ≤ c0) (hC1 : kF.C w A1 l.length l) (hc1 : l.length ≤ c1) :
    Calls Try.prog 34 #[.slice A0 l.length c0, .slice A1 l.length c1] w fun e w' => e = .returned (.bool true) ∧ Below w.heap.size w w' := by
  have hb2 : ∀ i, (PFramesGet.rd_T40 l i).f1.length < 9000000000000000000 := by
    intro i
    unfold PFramesGet.rd_T40
    rw [List.getD_eq_getElem?_getD]
    cases h : l[i.toNat]? with
    | none => simp [PFramesGet.z40]
    | some f => exact hb f (List.mem_of_getElem? h)
  obtain ⟨k, hk⟩ := same_out l hl hb2 l.length 0 (by omega)
  refine (PFramesGet.gimmalref06_Same.calls k A0 c0 l A1 c1 l true w hC0 hc0 hC1 hc1 ?_).mono fun e w' ⟨h1, h2⟩ => ⟨h1, h2.below⟩
  rw [PFramesGet.gimmalref06_Same.f, if_pos rfl]
  exact hk

set_option maxRecDepth 100000 in
set_option maxHeartbeats 400000 in
theorem refMay_any (w : World) (kind : Int) (A : Option Addr) (n c : Nat) (hn : n ≤ 140737488351232) :
    Calls Try.prog 28 #[.agg #[.int .i64 kind, .slice A n c]] w fun e w' => e = .returned (.bool (mayB kind n)) ∧ Below w.heap.size w w' := by
  unfold mayB
  by_cases h1 : 1 ≤ kind
  · have g1 : (0 : Int) < kind := by omega
    by_cases h2 : kind ≤ 255
    · have g2 : kind < 256 := by omega
      by_cases h3 : n ≤ 2000
      all_goals
        go_enter Try.func28, Try.ntmps28
        go_wp2
        go_ret
        exact ⟨by simp [h1, h2]; omega, (Below.refl _ w).alloc (Nat.le_refl _) _⟩
    · have g2 : ¬ kind < 256 := by omega
      go_enter Try.func28, Try.ntmps28
      go_wp2
      go_ret
      exact ⟨by simp [h1]; omega, (Below.refl _ w).alloc (Nat.le_refl _) _⟩
  · have g1 : ¬ (0 : Int) < kind := by omega
    go_enter Try.func28, Try.ntmps28
    go_wp2
    go_ret
    exact ⟨by simp; omega, (Below.refl _ w).alloc (Nat.le_refl _) _⟩

/-! Words at equal lists -/
theorem rd_get (l : List Int) (i : Nat) (h : i < l.length) : ∃ x, l[i]? = some x := ⟨l[i], List.getElem?_eq_getElem h⟩
theorem C_cell' {k : IntKind} {w : World} {A : Option Addr} {l : List Int} (h : (Kd.int k).C w A l.length l) (j : Nat) (hj : j < l.length) : ∃ ad, A = some ad ∧ w.cell? (ad.add j) = some (.int k l[j]) := C_cell h j hj

set_option maxRecDepth 100000 in
set_option maxHeartbeats 400000 in
theorem words_any (w : World) (A0 A1 : Option Addr) (c0 c1 : Nat) (l : List Int) (hlen : l.length ≤ 140737488351232) (hC0 : (Kd.int .u64).C w A0 l.length l) (hC1 : (Kd.int .u64).C w A1 l.length l) :
    Calls Try.prog 32 #[.slice A0 l.length c0, .slice A1 l.length c1] w fun e w' => e = .returned (.bool true) ∧ Below w.heap.size w w' := by
  have HC0 := Lib.hid hC0
  have HC1 := Lib.hid hC1
  have HB := Lib.hid (Below.refl w.heap.size w)
  have hL : (l.length : Int) ≤ 140737488351232 := by omega
  have Hlen := Lib.hid hlen
  clear hC0 hC1 hlen
  go_enter Try.func32, Try.ntmps32
  go_wp2
  go_loopg [5] l.length (fun kq v5 w' => ∃ (i : Nat), v5 = .int .i64 (i : Int) ∧ Hid (i + kq = l.length) ∧ Hid (Below w.heap.size w w'))
  case atStart => exact ⟨0, rfl, Lib.hid (by omega), HB⟩
  case round =>
    obtain ⟨i, rfl, Hi, Hb⟩ := hrel
    by_cases h : i < l.length
    · have hi : (i : Int) < (l.length : Int) := by omega
      obtain ⟨ad0, rfl, x0⟩ := C_cell (Kd.C_below HC0.out Hb.out) i h
      obtain ⟨ad1, rfl, x1⟩ := C_cell (Kd.C_below HC1.out Hb.out) i h
      obtain ⟨v, hv⟩ : ∃ v, v = l[i] := ⟨_, rfl⟩
      rw [← hv] at x0 x1
      have hw : wrap64 ((i : Int) + 1) = (i : Int) + 1 := w64s (by omega) (by omega)
      clear hv h
      go_wp2
      go_quiet (fail)
      go_wp2
      go_roundg (gk - 1)
      case measure => have := Hi.out; omega
      case rel => exact ⟨i + 1, by simp, Lib.hid (by have := Hi.out; omega), Lib.hid (pw_below_drewN Hb.out _)⟩
    · have hi : (l.length : Int) ≤ (i : Int) := by omega
      go_wp2
      go_ret
      exact ⟨rfl, Hb.out⟩

/-! great: is a list more than statements look at? -/
def greatB (l : List Fr) : Bool := l.any (fun f => decide (2100 < f.f1.length)) || decide (30 < l.length)
theorem greatB_false {l : List Fr} (h : greatB l = false) : l.length ≤ 30 ∧ ∀ f ∈ l, f.f1.length ≤ 2100 := by
  simp [greatB] at h
  exact ⟨h.2, h.1⟩
theorem k_cell {w : World} {A : Option Addr} {l : List Fr} (h : kF.C w A l.length l) (j : Nat) (hj : j < l.length) : ∃ ad A1 c1, A = some ad ∧ w.cell? (ad.add (j * 2)) = some (.int .i64 l[j].f0) ∧
    w.cell? ⟨(ad.add (j * 2)).block, (ad.add (j * 2)).off + 1, none⟩ = some (.slice A1 l[j].f1.length c1) ∧ l[j].f1.length ≤ c1 ∧ (Kd.int .u64).C w A1 l[j].f1.length l[j].f1 := by
  obtain ⟨ad, A1, c1, h1, h2, h3, h4, h5⟩ := PFramesGet.at_T40 h (j : Int) (by omega) (by omega)
  have e : PFramesGet.rd_T40 l (j : Int) = l[j] := by simp [PFramesGet.rd_T40, List.getD_eq_getElem?_getD, hj]
  rw [e] at h2 h3 h4 h5
  exact ⟨ad, A1, c1, h1, h2, h3, h4, h5⟩

set_option maxRecDepth 100000 in
set_option maxHeartbeats 400000 in
theorem great_any (w : World) (A : Option Addr) (c : Nat) (l : List Fr) (hlen : l.length ≤ 140737488351232) (hC : kF.C w A l.length l) :
    Calls Try.prog 26 #[.slice A l.length c] w fun e w' => e = .returned (.bool (greatB l)) ∧ w = w' := by
  have HC := Lib.hid hC
  have Hlen := Lib.hid hlen
  obtain ⟨g, hg⟩ : ∃ g, g = greatB l := ⟨_, rfl⟩
  have Hg := Lib.hid hg
  rw [← hg]
  clear hC hlen hg
  go_enter Try.func26, Try.ntmps26
  go_wp2
  go_loopg [3] l.length (fun kq v3 w' => ∃ (i : Nat), v3 = .int .i64 (i : Int) ∧ Hid (i + kq = l.length) ∧ Hid (∀ f ∈ l.take i, f.f1.length ≤ 2100) ∧ w = w')
  case atStart => exact ⟨0, rfl, Lib.hid (by omega), Lib.hid (by simp), rfl⟩
  case round =>
    obtain ⟨i, rfl, Hi, Hf, rfl⟩ := hrel
    by_cases h : i < l.length
    · have hi : (i : Int) < (l.length : Int) := by omega
      obtain ⟨ad, A1, c1, rfl, x0, x1, x2, x3⟩ := k_cell HC.out i h
      obtain ⟨n, hn⟩ : ∃ n, n = l[i].f1.length := ⟨_, rfl⟩
      rw [← hn] at x1
      have Hn := Lib.hid hn
      have hw : wrap64 ((i : Int) + 1) = (i : Int) + 1 := w64s (by omega) (by have := Hlen.out; omega)
      clear hn x0 x2 x3
      by_cases h2 : 2100 < n
      · have h2i : (2100 : Int) < (n : Int) := by omega
        have hgt : g = true := by
          rw [Hg.out]; unfold greatB
          rw [Bool.or_eq_true]; left
          rw [List.any_eq_true]
          exact ⟨l[i], List.getElem_mem h, by have e := Hn.out; exact decide_eq_true (by omega)⟩
        have Hgt := Lib.hid hgt
        clear hgt
        go_wp2
        go_ret
        rw [Hgt.out]
        exact ⟨rfl, rfl⟩
      · have h2i : (n : Int) ≤ 2100 := by omega
        go_wp2
        go_roundg (gk - 1)
        case measure => have := Hi.out; omega
        case rel =>
          refine ⟨i + 1, by simp [hw], Lib.hid (by have := Hi.out; omega), Lib.hid ?_, rfl⟩
          intro f hf
          rw [List.take_succ_eq_append_getElem h] at hf
          rcases List.mem_append.1 hf with hf | hf
          · exact Hf.out f hf
          · have := List.mem_singleton.1 hf
            rw [this, ← Hn.out]; omega
    · have hi : (l.length : Int) ≤ (i : Int) := by omega
      have hgt : g = decide ((30 : Int) < (l.length : Int)) := by
        rw [Hg.out]; unfold greatB
        rw [List.any_eq_false.2]
        · rw [Bool.false_or]; exact decide_eq_decide.2 (by omega)
        · intro f hf
          have := Hf.out f (by rw [List.take_of_length_le (by omega)]; exact hf)
          simp; exact this
      have Hgt := Lib.hid hgt
      clear hgt
      go_wp2
      go_ret
      rw [Hgt.out]
      exact ⟨by simp, rfl⟩

set_option maxRecDepth 100000 in
set_option maxHeartbeats 400000 in
theorem alive6_any (w : World) :
    Calls Try.prog 25 #[] w fun e w' => e = .returned (.bool true) ∧ Below w.heap.size w w' := by
  have HB := Lib.hid ((Below.refl w.heap.size w).alloc (Nat.le_refl _) (.cells #[.int .u64 5, .int .u64 6] 30))
  have HC : Hid ((Kd.int .u64).C (w.alloc (.cells #[.int .u64 5, .int .u64 6] 30)) (some ⟨w.heap.size, 0, none⟩) ([5, 6] : List Int).length [5, 6]) :=
    Lib.hid (Kd.R_reads' (lit_R w w (Below.refl _ _) .u64 30 [5, 6] (by simp))).2.2
  go_enter Try.func25, Try.ntmps25
  go_wp2_with (go_at_call 27; (refine (put_any _ 0 0 1 (by omega) (by omega) (by omega) (by omega) _ 2 [5, 6] (by intro x hx; simp at hx; omega) (by simp) HC.out).mono ?_); rintro en w1 ⟨A1, c1, rfl, hl1, hC1, hR1, hb⟩; obtain ⟨ad, rfl, y1⟩ := C_cell hC1 1 (by simp); obtain ⟨ad', e, y2⟩ := C_cell hC1 2 (by simp); cases e; have z1 : w1.cell? ⟨ad.block, ad.off + 1, none⟩ = some (.int .u64 5) := y1; have z2 : w1.cell? ⟨ad.block, ad.off + 2, none⟩ = some (.int .u64 6) := y2; have Hb := Lib.hid hb; clear hb hC1 hR1 y1 y2)
  go_ret
  exact ⟨rfl, HB.out.trans (Hb.out.mono (by simp))⟩
end Go.Proofs.Ytmeoiennniknlaa.Frames
