/- The contract of (*disk.Disk).Read. -/
import Derived.Test.YtmeoiennniknlaaDkD
namespace Go.Proofs.Ytmeoiennniknlaa.Disk
open Go.RowKit Go.Shelf Go.Proofs.YtmeoiennniknlaaW.PrintWords Go.Proofs.Ytmeoiennniknlaa.Lb Go.Proofs.Ytmeoiennniknlaa.Anchor
set_option linter.unusedVariables false
set_option linter.unusedSimpArgs false

/-- What is read at i. -/
def cur (L : List (List Int)) (M : Nat → Option (List Int)) (i : Nat) : List Int := (M i).getD (L.getD i [])

theorem atKey_has {D : DataW Value} {k : Lit} (h : Maps.has D k = true) (z z' : DataW Value) : D.atKey k z = D.atKey k z' := by
  cases D with
  | map es =>
    rw [Maps.has_eq, List.any_eq_true] at h
    obtain ⟨p, hp, hk⟩ := h
    simp only [DataW.atKey]
    cases hf : es.find? (fun p => p.1.sameKey k) with
    | none => rw [List.find?_eq_none] at hf; exact absurd hk (hf p hp)
    | some q => rfl
  | _ => simp [Maps.has] at h
theorem MapIs.at_some {D : DataW Value} {n : Nat} {M : Nat → Option (List Int)} (h : MapIs D n M) {i : Nat} {s : List Int} (hi : M i = some s) (z : DataW Value) : D.atKey (keyL i) z = .held (sv s) := by
  have h1 := h.has i
  rw [hi] at h1
  rw [atKey_has h1 z .nil, h.val i, hi]; rfl
theorem MapIs.at_none {D : DataW Value} {n : Nat} {M : Nat → Option (List Int)} (h : MapIs D n M) {i : Nat} (hi : M i = none) (z : DataW Value) : D.atKey (keyL i) z = z := by
  have h1 := h.has i
  rw [hi] at h1
  exact Maps.atKey_of_not_has h1 z

/-- v, ok := m[k], where it is known what comes. -/
theorem lookup_sec {P : Program} (w : World) {ops : Array Oper} {rest : List Oper} {o : Oper} {a : Act} {Q : Exit → Act → World → Prop} (hg : o.guard = none) (m x : Operand) (t : TypeId) (hop : o.op = Op.lookup t m x true)
    (k e : TypeId) (K : Maps.Keyed P k) (ht : P.underlying t = some (.map k e)) {z : Value} (hz : (zeroValue e).run P w = .ok z w) (b n : Nat) (D : DataW Value)
    (hm : a.eval m = .map (some b)) (hown : w.ownsMap P k secR b n D) (key : Value) (kl : Lit) (hx : a.eval x = key) (hkey : keyOf P k key = some kl) (v0 : Value) (b0 : Bool) (hat : D.atKey kl (.held z) = .held v0) (hh : Maps.has D kl = b0)
    (hK : wpList P ops Q rest (a.put o.dst (.tuple #[v0, .bool b0])) w) : wpList P ops Q (o :: rest) a w := by
  refine wpList_lookup_own_ok w hg m x t hop k e K ht secR hz (.held z) [] rfl b n D hm hown key kl hx hkey (fun v ps hv => ?_)
  rw [hat] at hv
  simp only [secR, Option.some.injEq, Prod.mk.injEq, DataW.held.injEq] at hv
  rw [hv.1, hh]
  exact hK

set_option maxRecDepth 100000 in
set_option maxHeartbeats 400000 in
theorem read_out (w : World) (p : Option Addr) (i : Int) (h : ∀ W, Hid (Below w.heap.size w W) → Calls Try.prog 81 #[.pointer p, .int .i64 i] W fun en w' => en = .returned (.bool false) ∧ W = w') :
    Calls Try.prog 67 #[.pointer p, .int .i64 i] w fun en w' => en = .returned (.tuple #[agg8 0 0 0 0 0 0 0 0, .int .i64 3]) ∧ Below w.heap.size w w' := by
  have H := Lib.hid h
  clear h
  have HB := Lib.hid ((Below.refl _ w).alloc (Nat.le_refl _) (.cells #[.int .u64 0, .int .u64 0, .int .u64 0, .int .u64 0, .int .u64 0, .int .u64 0, .int .u64 0, .int .u64 0] 59))
  go_enter Try.func67, Try.ntmps67
  go_wp2_with (go_at_call 81; (with_reducible refine (H.out _ ?_).mono ?_); rotate_right; rintro en w1 ⟨rfl, rfl⟩)
  any_goals exact HB
  exact bodyPost_ret (v := .tuple #[agg8 0 0 0 0 0 0 0 0, .int .i64 3]) (by simp [results, Try.results67, go_sem]) rfl ⟨rfl, HB.out⟩

theorem zeroSec (w : World) : (zeroValue 59).run Try.prog w = .ok (agg8 0 0 0 0 0 0 0 0) w := by kernel_rfl

set_option maxRecDepth 100000 in
set_option maxHeartbeats 1000000 in
theorem read_new {w : World} {d lb mb : Nat} {L : List (List Int)} {M : Nat → Option (List Int)} (h : Dsk w d lb mb L M) (i : Nat) (hi : i < L.length) (s0 s1 s2 s3 s4 s5 s6 s7 : Int) (hs : M i = some [s0, s1, s2, s3, s4, s5, s6, s7]) :
    Calls Try.prog 67 #[.pointer (some ⟨d, 0, none⟩), .int .i64 (i : Int)] w fun en w' => en = .returned (.tuple #[agg8 s0 s1 s2 s3 s4 s5 s6 s7, .int .i64 0]) ∧ Below w.heap.size w w' := by
  have H := Lib.hid (h.alloc (.cells #[.int .u64 0, .int .u64 0, .int .u64 0, .int .u64 0, .int .u64 0, .int .u64 0, .int .u64 0, .int .u64 0] 59))
  have HT : Hid (thB (i : Int) L.length = true) := Lib.hid (by simp [thB, hi])
  obtain ⟨wr, sy, ho⟩ := h.obj
  obtain ⟨D, hD, hm⟩ := h.map
  have HM := Lib.hid (hm.alloc (.cells #[.int .u64 0, .int .u64 0, .int .u64 0, .int .u64 0, .int .u64 0, .int .u64 0, .int .u64 0, .int .u64 0] 59))
  have HA := Lib.hid (hD.at_some hs (.held (agg8 0 0 0 0 0 0 0 0)))
  have HH : Hid (Maps.has D (keyL i) = true) := Lib.hid (by rw [hD.has i, hs]; rfl)
  have hll := h.len.2
  have HK : Hid (keyOf Try.prog 3 (.int .i64 (i : Int)) = some (keyL i)) := Lib.hid (Maps.keyOf_int_mk Try.underlying3 (WalkArith.wf_i64 (by omega)))
  have q := ho.cell
  have hdl := h.ltd
  clear h hs hi ho hD hm hll
  go_enter Try.func67, Try.ntmps67
  go_wp2_with (first
    | (go_at_call 81; (with_reducible refine (there_at H HT).mono ?_); rintro en w1 ⟨rfl, rfl⟩)
    | (at_lookup; refine lookup_sec _ rfl _ _ 116 rfl 3 59 (Maps.int_keyed Try.underlying3) Try.underlying116 (zeroSec _) mb (Maps.size D) D rfl HM.out _ _ rfl HK.out (agg8 s0 s1 s2 s3 s4 s5 s6 s7) true HA.out HH.out ?_))
  exact bodyPost_ret (v := .tuple #[agg8 s0 s1 s2 s3 s4 s5 s6 s7, .int .i64 0]) (by simp [results, Try.results67, go_sem]) rfl ⟨rfl, ((Below.refl _ w).alloc (Nat.le_refl _) _).alloc (by simp) _⟩

set_option maxRecDepth 100000 in
set_option maxHeartbeats 1000000 in
theorem read_old {w : World} {d lb mb : Nat} {L : List (List Int)} {M : Nat → Option (List Int)} (h : Dsk w d lb mb L M) (i : Nat) (hi : i < L.length) (s0 s1 s2 s3 s4 s5 s6 s7 : Int) (hs : M i = none) (hl : L.getD i [] = [s0, s1, s2, s3, s4, s5, s6, s7]) :
    Calls Try.prog 67 #[.pointer (some ⟨d, 0, none⟩), .int .i64 (i : Int)] w fun en w' => en = .returned (.tuple #[agg8 s0 s1 s2 s3 s4 s5 s6 s7, .int .i64 0]) ∧ Below w.heap.size w w' := by
  have H := Lib.hid (h.alloc (.cells #[.int .u64 0, .int .u64 0, .int .u64 0, .int .u64 0, .int .u64 0, .int .u64 0, .int .u64 0, .int .u64 0] 59))
  have HT : Hid (thB (i : Int) L.length = true) := Lib.hid (by simp [thB, hi])
  obtain ⟨wr, sy, ho⟩ := h.obj
  obtain ⟨D, hD, hm⟩ := h.map
  have HM := Lib.hid (hm.alloc (.cells #[.int .u64 0, .int .u64 0, .int .u64 0, .int .u64 0, .int .u64 0, .int .u64 0, .int .u64 0, .int .u64 0] 59))
  have HA := Lib.hid (hD.at_none hs (.held (agg8 0 0 0 0 0 0 0 0)))
  have HH : Hid (Maps.has D (keyL i) = false) := Lib.hid (by rw [hD.has i, hs]; rfl)
  have hll := h.len.2
  have HK : Hid (keyOf Try.prog 3 (.int .i64 (i : Int)) = some (keyL i)) := Lib.hid (Maps.keyOf_int_mk Try.underlying3 (WalkArith.wf_i64 (by omega)))
  have q := ho.cell
  have hdl := h.ltd
  have hlbl := h.ltl
  have hc : ∀ j, j < 8 → w.cell? ⟨lb, i * 8 + j, none⟩ = (nums .u64 [s0, s1, s2, s3, s4, s5, s6, s7])[j]? := fun j hj => by
    rw [h.las.cell, secC_at L (fun s hs => (h.secs s hs).1) i j hi hj, hl]
  have c0 : w.cell? ⟨lb, i * 8, none⟩ = some (.int .u64 s0) := hc 0 (by decide)
  have c1 : w.cell? ⟨lb, i * 8 + 1, none⟩ = some (.int .u64 s1) := hc 1 (by decide)
  have c2 : w.cell? ⟨lb, i * 8 + 2, none⟩ = some (.int .u64 s2) := hc 2 (by decide)
  have c3 : w.cell? ⟨lb, i * 8 + 3, none⟩ = some (.int .u64 s3) := hc 3 (by decide)
  have c4 : w.cell? ⟨lb, i * 8 + 4, none⟩ = some (.int .u64 s4) := hc 4 (by decide)
  have c5 : w.cell? ⟨lb, i * 8 + 5, none⟩ = some (.int .u64 s5) := hc 5 (by decide)
  have c6 : w.cell? ⟨lb, i * 8 + 6, none⟩ = some (.int .u64 s6) := hc 6 (by decide)
  have c7 : w.cell? ⟨lb, i * 8 + 7, none⟩ = some (.int .u64 s7) := hc 7 (by decide)
  have hii : (i : Int) < (L.length : Int) := by omega
  clear h hs hi ho hD hm hll hc hl
  go_enter Try.func67, Try.ntmps67
  go_wp2_with (first
    | (go_at_call 81; (with_reducible refine (there_at H HT).mono ?_); rintro en w1 ⟨rfl, rfl⟩)
    | (at_lookup; refine lookup_sec _ rfl _ _ 116 rfl 3 59 (Maps.int_keyed Try.underlying3) Try.underlying116 (zeroSec _) mb (Maps.size D) D rfl HM.out _ _ rfl HK.out (agg8 0 0 0 0 0 0 0 0) false HA.out HH.out ?_))
  exact bodyPost_ret (v := .tuple #[agg8 s0 s1 s2 s3 s4 s5 s6 s7, .int .i64 0]) (by simp [results, Try.results67, go_sem]) rfl ⟨rfl, ((Below.refl _ w).alloc (Nat.le_refl _) _).alloc (by simp) _⟩

theorem read_any {w : World} {d lb mb : Nat} {L : List (List Int)} {M : Nat → Option (List Int)} (h : Dsk w d lb mb L M) (i : Nat) (hi : i < L.length) (s0 s1 s2 s3 s4 s5 s6 s7 : Int) (hs : cur L M i = [s0, s1, s2, s3, s4, s5, s6, s7]) :
    Calls Try.prog 67 #[.pointer (some ⟨d, 0, none⟩), .int .i64 (i : Int)] w fun en w' => en = .returned (.tuple #[agg8 s0 s1 s2 s3 s4 s5 s6 s7, .int .i64 0]) ∧ Below w.heap.size w w' := by
  unfold cur at hs
  cases hm : M i with
  | some s => rw [hm] at hs; exact read_new h i hi _ _ _ _ _ _ _ _ (by rw [hm]; exact congrArg _ hs)
  | none => rw [hm] at hs; exact read_old h i hi _ _ _ _ _ _ _ _ hm hs
end Go.Proofs.Ytmeoiennniknlaa.Disk
