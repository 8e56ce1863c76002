/- The walk of the statement FramesGet. -/
import Derived.Test.YtmeoiennniknlaaFrAllIt
import Derived.Test.YtmeoiennniknlaaRowLib
namespace Go.Proofs.Ytmeoiennniknlaa.Frames
open Go.RowKit Go.Shelf Go.Proofs.YtmeoiennniknlaaW.PrintWords Go.Proofs.Ytmeoiennniknlaa.Lb Go.Proofs.Ytmeoiennniknlaa.Sums
set_option linter.unusedVariables false
set_option linter.unusedSimpArgs false

theorem all_any (w : World) (e : Int) (A0 : Option Addr) (c0 : Nat) (l : List Int) (hl : WS l) (hm : l.length ≤ 1000000000) (hc : l.length ≤ c0) (hC : (Kd.int .u64).C w A0 l.length l) :
    Calls Try.prog 36 #[.int .i64 e, .slice A0 l.length c0] w (AllC w (allR e (l.length + 1) 0 l)) :=
  callsIn_wide.1 (all_in 3 (by omega) w e A0 c0 l hl hm hc hC)
theorem refAll_C (w : World) (e : Int) (A0 : Option Addr) (c0 : Nat) (l : List Int) (hl : WS l) (hm : l.length ≤ 1000000000) (hc : l.length ≤ c0) (hC : (Kd.int .u64).C w A0 l.length l) :
    Calls Try.prog 37 #[.int .i64 e, .slice A0 l.length c0] w (AllC w (allR e (l.length + 1) 0 l)) := by
  refine (refAll_any w e A0 c0 l hl hm hc hC).mono ?_
  rintro en w' ⟨A, c, h1, h2, h3⟩
  obtain ⟨_, g1, g2⟩ := Kd.R_reads' h2
  exact ⟨A, c, h1, g1, g2, h3⟩
theorem allR_len (e : Int) : ∀ g n l, (allR e g n l).1.length ≤ g ∧ ∀ f ∈ (allR e g n l).1, f.f1.length ≤ 2000
  | 0, _, _ => ⟨Nat.le_refl _, fun f hf => by cases hf⟩
  | g + 1, n, l => by
    rw [allR]
    cases hg : getR e (n : Int) l with
    | none => exact ⟨Nat.zero_le _, fun f hf => by cases hf⟩
    | some fm =>
      obtain ⟨f, m⟩ := fm
      obtain ⟨h1, h2⟩ := allR_len e g (n + 1) (l.drop m)
      refine ⟨by simpa using h1, fun y hy => ?_⟩
      rcases List.mem_cons.1 hy with rfl | hy
      · exact (getR_facts hg).2.2.1
      · exact h2 y hy

def gk (r : Option (Fr × Nat)) : Int := match r with | none => 0 | some (f, _) => f.f0
def gw (r : Option (Fr × Nat)) : List Int := match r with | none => [] | some (f, _) => f.f1
def gm (r : Option (Fr × Nat)) : Nat := match r with | none => 0 | some (_, m) => m
theorem getP_U {w w' : World} {r : Option (Fr × Nat)} {en : Ending} (h : GetP w r en w') : ∃ A1 c1, en = .returned (.tuple #[.agg #[.int .i64 (gk r), .slice A1 (gw r).length c1], .int .i64 (gm r : Int), .bool r.isSome]) ∧ (gw r).length ≤ c1 ∧
    (Kd.int .u64).C w' A1 (gw r).length (gw r) ∧ Below w.heap.size w w' := by
  cases r with
  | none => exact ⟨none, 0, h.1, Nat.le_refl _, Kd.C_nil _ _, h.2⟩
  | some fm =>
    obtain ⟨A1, c1, h1, h2, h3, _, h5⟩ := h
    exact ⟨A1, c1, h1, h2, h3, h5⟩
theorem gw_len {e n : Int} {l : List Int} : (gw (getR e n l)).length ≤ 2000 := by
  cases h : getR e n l with
  | none => exact Nat.zero_le _
  | some fm => exact (getR_facts (f := fm.1) (m := fm.2) h).2.2.1

set_option maxRecDepth 100000 in
set_option maxHeartbeats 400000 in
theorem getLaw_out (w : World) (e n : Int) (A : Option Addr) (m c : Nat) (h : 3000 < m) :
    Calls Try.prog 8 #[.int .i64 e, .int .i64 n, .slice A m c] w fun en w' => en = .returned (.bool true) ∧ Below w.heap.size w w' := by
  have hi : (3000 : Int) < (m : Int) := by omega
  go_enter Try.func8, Try.ntmps8
  go_wp2_with (go_at_call 25; (with_reducible refine (alive6_any _).mono ?_); rintro en w1 ⟨rfl, hb⟩; have Hb1 := Lib.hid hb; clear hb)
  go_ret
  exact ⟨rfl, Hb1.out⟩

set_option maxRecDepth 100000 in
set_option maxHeartbeats 2000000 in
theorem getLaw_any (w : World) (e n : Int) (A : Option Addr) (c : Nat) (l : List Int) (hl : WS l) (hm : l.length ≤ 3000) (hc : l.length ≤ c) (hC : (Kd.int .u64).C w A l.length l) :
    Calls Try.prog 8 #[.int .i64 e, .int .i64 n, .slice A l.length c] w fun en w' => en = .returned (.bool true) ∧ Below w.heap.size w w' := by
  have HC := Lib.hid hC
  obtain ⟨r, hr⟩ : ∃ r, r = getR e n l := ⟨_, rfl⟩
  obtain ⟨k, hk⟩ : ∃ k, k = gk r := ⟨_, rfl⟩
  obtain ⟨ws, hws⟩ : ∃ ws, ws = gw r := ⟨_, rfl⟩
  obtain ⟨m, hm2⟩ : ∃ m, m = gm r := ⟨_, rfl⟩
  obtain ⟨b, hb⟩ : ∃ b, b = r.isSome := ⟨_, rfl⟩
  have Hwl : Hid (ws.length ≤ 2000) := Lib.hid (by rw [hws, hr]; exact gw_len)
  obtain ⟨T, hT⟩ : ∃ T, T = allR e (l.length + 1) 0 l := ⟨_, rfl⟩
  have HTl : Hid (T.1.length ≤ 3001 ∧ ∀ f ∈ T.1, f.f1.length ≤ 2000) := Lib.hid (by
    rw [hT]
    have := allR_len e (l.length + 1) 0 l
    exact ⟨by omega, this.2⟩)
  have Hget : Hid (∀ W, Hid (Below w.heap.size w W) → Calls Try.prog 31 #[.int .i64 e, .int .i64 n, .slice A l.length c] W fun en w' => ∃ A1 c1, en = .returned (.tuple #[.agg #[.int .i64 k, .slice A1 ws.length c1], .int .i64 (m : Int), .bool b]) ∧ ws.length ≤ c1 ∧ (Kd.int .u64).C w' A1 ws.length ws ∧ Below W.heap.size W w') := Lib.hid (by
    intro W hW
    rw [hk, hws, hm2, hb, hr]
    exact (get_any W e n A c l hl (by omega) hc (Kd.C_below hC hW.out)).mono fun en w' h => getP_U h)
  have Hrget : Hid (∀ W, Hid (Below w.heap.size w W) → Calls Try.prog 35 #[.int .i64 e, .int .i64 n, .slice A l.length c] W fun en w' => ∃ A1 c1, en = .returned (.tuple #[.agg #[.int .i64 k, .slice A1 ws.length c1], .int .i64 (m : Int), .bool b]) ∧ ws.length ≤ c1 ∧ (Kd.int .u64).C w' A1 ws.length ws ∧ Below W.heap.size W w') := Lib.hid (by
    intro W hW
    rw [hk, hws, hm2, hb, hr]
    exact (refGet_any W e n A c l hl (by omega) hc (Kd.C_below hC hW.out)).mono fun en w' h => getP_U h)
  have Hall : Hid (∀ W, Hid (Below w.heap.size w W) → Calls Try.prog 36 #[.int .i64 e, .slice A l.length c] W (AllC W T)) := Lib.hid (by
    intro W hW
    rw [hT]
    exact all_any W e A c l hl (by omega) hc (Kd.C_below hC hW.out))
  have Hrall : Hid (∀ W, Hid (Below w.heap.size w W) → Calls Try.prog 37 #[.int .i64 e, .slice A l.length c] W (AllC W T)) := Lib.hid (by
    intro W hW
    rw [hT]
    exact refAll_C W e A c l hl (by omega) hc (Kd.C_below hC hW.out))
  have hmi : (l.length : Int) ≤ 3000 := by omega
  clear hr hk hws hm2 hb hT hl hm hc hC
  go_enter Try.func8, Try.ntmps8
  go_wp2_with (first
    | (go_at_call 25; (with_reducible refine (alive6_any _).mono ?_); rintro en w1 ⟨rfl, hb⟩; have Hb1 := Lib.hid hb; clear hb)
    | (go_at_call 31; (with_reducible refine (Hget.out _ Hb1).mono ?_); rintro en w2 ⟨A2, c2, rfl, hl2, hC2, hb⟩; have HC2 := Lib.hid hC2; have Hb2 := Lib.hid (Hb1.out.trans (hb.mono Hb1.out.size)); have Hb3 := Lib.hid (Hb2.out.alloc Hb2.out.size (.cells #[.int .i64 k, .slice A2 ws.length c2] 40)); clear hb hC2)
    | (go_at_call 35; (with_reducible refine (Hrget.out _ Hb3).mono ?_); rintro en w4 ⟨A4, c4, rfl, hl4, hC4, hb⟩; have HC4 := Lib.hid hC4; have HC24 := Lib.hid (Kd.C_below (Kd.C_below HC2.out ((Below.refl _ _).alloc (Nat.le_refl _) (.cells #[.int .i64 k, .slice A2 ws.length c2] 40))) hb); have p0 : w4.cell? ⟨w2.heap.size, 0, none⟩ = some (.int .i64 k) := (hb.cell (p := ⟨w2.heap.size, 0, none⟩) (by simp)).trans (by simp [go_sem]); have p1 : w4.cell? ⟨w2.heap.size, 1, none⟩ = some (.slice A2 ws.length c2) := (hb.cell (p := ⟨w2.heap.size, 1, none⟩) (by simp)).trans (by simp [go_sem]); have hs4 : w2.heap.size < w4.heap.size := (by have := hb.size; simp at this; omega); have Hb4 := Lib.hid (Hb3.out.trans (hb.mono Hb3.out.size)); clear hb hC4)
    | (go_at_call 34; have hsame := same_one (w4.alloc (.cells #[.int .i64 k, .slice A4 ws.length c4] 40)) k ws (Nat.le_trans Hwl.out (by decide)) A2 A4 c2 c4 hl2 (Kd.C_below HC24.out ((Below.refl _ _).alloc (Nat.le_refl _) _)) hl4 (Kd.C_below HC4.out ((Below.refl _ _).alloc (Nat.le_refl _) _)); rw [World.size_alloc] at hsame; (with_reducible refine hsame.mono ?_); rintro en w6 ⟨rfl, hb⟩; have Hb5 := Hb4.out.alloc Hb4.out.size (.cells #[.int .i64 k, .slice A4 ws.length c4] 40); have Hb6 := Lib.hid (Hb5.trans (hb.mono (by have := Hb4.out.size; omega))); clear hb Hb5 hsame)
    | (go_at_call 36; (with_reducible refine (Hall.out _ Hb6).mono ?_); rintro en w7 ⟨A7, c7, rfl, hl7, hC7, hb⟩; have HC7 := Lib.hid hC7; have Hb7 := Lib.hid (Hb6.out.trans (hb.mono Hb6.out.size)); clear hb hC7)
    | (go_at_call 37; (with_reducible refine (Hrall.out _ Hb7).mono ?_); rintro en w8 ⟨A8, c8, rfl, hl8, hC8, hb⟩; have HC8 := Lib.hid hC8; have HC78 := Lib.hid (Kd.C_below HC7.out hb); have Hb8 := Lib.hid (Hb7.out.trans (hb.mono Hb7.out.size)); clear hb hC8)
    | (go_at_call 34; (with_reducible refine (same_any _ _ _ _ _ _ (Nat.lt_of_le_of_lt HTl.out.1 (by decide)) (fun f hf => Nat.lt_of_le_of_lt (HTl.out.2 f hf) (by decide)) HC78.out hl7 HC8.out hl8).mono ?_); rintro en w9 ⟨rfl, hb⟩; have Hb9 := Lib.hid (Hb8.out.trans (hb.mono Hb8.out.size)); clear hb))
  go_ret
  exact ⟨rfl, Hb9.out⟩

theorem getLaw (w : World) (e n : Int) (A : Option Addr) (c : Nat) (l : List Int) (hl : WS l) (hc : l.length ≤ c) (hC : (Kd.int .u64).C w A l.length l) :
    Calls Try.prog 8 #[.int .i64 e, .int .i64 n, .slice A l.length c] w fun en w' => en = .returned (.bool true) ∧ Below w.heap.size w w' := by
  by_cases h : 3000 < l.length
  · exact getLaw_out w e n A l.length c h
  · exact getLaw_any w e n A c l hl (by omega) hc hC
theorem framesGet_law (W : World) (x0 : Int) (w0 : (Lit.int .i64 x0).wf = true) (x1 : Int) (w1 : (Lit.int .i64 x1).wf = true) {a2 : Option Addr} {cap2 : Nat} (l2 : List Int) (hm2 : l2.length ≤ maxLen) (y2 : l2.length * 8 ≤ 140737488351232) (hw2 : ∀ x ∈ l2, (Lit.int .u64 x).wf = true) (hc2 : l2.length ≤ cap2) (hr2 : (Kd.int .u64).C W a2 l2.length l2) :
    Calls Try.prog 8 #[.int .i64 x0, .int .i64 x1, .slice a2 l2.length cap2] W fun e W' => e = .returned (.bool true) ∧ Below W.heap.size W W' :=
  getLaw W x0 x1 a2 cap2 l2 (fun x hx => by have := Go.bounds_u64 (hw2 x hx); omega) hc2 hr2
end Go.Proofs.Ytmeoiennniknlaa.Frames
