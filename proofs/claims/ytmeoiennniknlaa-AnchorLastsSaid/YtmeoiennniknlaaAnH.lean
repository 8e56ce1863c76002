/- The contract of anchor.Find. -/
import Derived.Test.YtmeoiennniknlaaAnG
namespace Go.Proofs.Ytmeoiennniknlaa.Anchor
open Go.RowKit Go.Shelf Go.Proofs.YtmeoiennniknlaaW.PrintWords Go.Proofs.Ytmeoiennniknlaa.Lb Go.Proofs.Ytmeoiennniknlaa.Sums
open Go.Proofs.Ytmeoiennniknlaa.Disk (Dsk Chg Sec cur upd thB)
set_option linter.unusedVariables false
set_option linter.unusedSimpArgs false

def kAnc : Kd Anc := Kd.iso (Kd.pair (Kd.int .i64) (Kd.pair (Kd.int .i64) (Kd.pair (Kd.int .i64) (Kd.int .i64)))) (fun x : Anc => (x.n, x.e, x.a, x.w))
def ancC (x : Anc) : List Value := [.int .i64 x.n, .int .i64 x.e, .int .i64 x.a, .int .i64 x.w]
theorem kAnc_mk (w : World) (base : Nat) (ok : Nat → Prop) (x : Anc) : kAnc.M w base ok x (ancC x) := ⟨[.int .i64 x.n], [.int .i64 x.e, .int .i64 x.a, .int .i64 x.w], rfl, rfl, [.int .i64 x.e], [.int .i64 x.a, .int .i64 x.w], rfl, rfl, [.int .i64 x.a], [.int .i64 x.w], rfl, rfl, rfl⟩
theorem kAnc_open {w : World} {x : Anc} {cs : List Value} (h : kAnc.K w x cs) : cs = ancC x := by
  obtain ⟨_, _, rfl, h1, _, _, rfl, h2, _, _, rfl, h3, h4⟩ := h
  have e1 : _ = [Value.int .i64 x.n] := h1
  have e2 : _ = [Value.int .i64 x.e] := h2
  have e3 : _ = [Value.int .i64 x.a] := h3
  have e4 : _ = [Value.int .i64 x.w] := h4
  rw [e1, e2, e3, e4]; rfl
theorem infoAnc : (Try.prog.info? 58).map (fun i => (i.zero, i.size, i.bytes)) = some (some (.agg #[.int .i64 0, .int .i64 0, .int .i64 0, .int .i64 0]), kAnc.sz, 32) := by kernel_rfl
/-- A row of anchors of one's own: where it lies. -/
theorem ancRow {w : World} {base n : Nat} {A : Option Addr} {c : Nat} {l : List Anc} (h : kAnc.R 58 w base (fun _ => True) (.slice A n c) l) (hn : l.length = n) (hp : 0 < n) :
    ∃ g, A = some ⟨g, 0, none⟩ ∧ ∀ j (x : Anc), l[j]? = some x → ∀ i u, (ancC x)[i]? = some u → w.cell? ⟨g, j * 4 + i, none⟩ = some u := by
  obtain ⟨g, cap, hv, _, _, _⟩ := Kd.R_form h (by omega)
  simp only [Value.slice.injEq] at hv
  obtain ⟨rfl, _, rfl⟩ := hv
  refine ⟨g, rfl, fun j x hx i u hu => ?_⟩
  have hC := (Kd.R_reads' h).2.2
  obtain ⟨ad, e1, h2⟩ := hC.2.2 (by omega)
  simp only [Option.some.injEq] at e1
  subst e1
  obtain ⟨cs, _, h4, h5⟩ := h2 j x hx
  have h6 := kAnc_open h4
  subst h6
  have h7 := h5 i u hu
  have e2 : (⟨g, 0, none⟩ : Addr).add (j * kAnc.sz + i) = ⟨g, j * 4 + i, none⟩ := by
    show (⟨g, 0, none⟩ : Addr).add (j * 4 + i) = _
    unfold Addr.add; split <;> simp_all
  rw [e2] at h7
  exact h7

section
variable {ops : Array Oper} {rest : List Oper} {o : Oper} {a : Act} {Q : Exit → Act → World → Prop}
theorem app_anc {w0 W : World} (hgd : o.guard = none) (s x : Operand) (ho : o.op = .call { callee := .builtin .append, args := #[s, x], argTypes := #[119, 119] })
    (v : Value) (xs : List Anc) (p : Anc) (zs : List Anc) (n : Nat) (hs : a.eval s = v) (hx : a.eval x = .slice (some ⟨W.heap.size, 0, none⟩) 1 1) (hz : xs ++ [p] = zs) (hn : Hid (zs.length = n)) (HR : Hid (kAnc.R 58 W w0.heap.size (fun _ => True) v xs)) (HB : Hid (Below w0.heap.size w0 W)) (hlen : n ≤ 10)
    (h : ∀ A1 c1 w1, n ≤ c1 → Hid (kAnc.R 58 w1 w0.heap.size (fun _ => True) (.slice A1 n c1) zs) → Hid (Below w0.heap.size w0 w1) → wpList Try.prog ops Q rest (a.put o.dst (.slice A1 n c1)) w1) :
    wpList Try.prog ops Q (o :: rest) a (W.alloc (.cells #[.int .i64 p.n, .int .i64 p.e, .int .i64 p.a, .int .i64 p.w] 58)) := by
  have hl : xs.length + 1 = n := by rw [← hn.out, ← hz]; simp
  refine Kd.R_append kAnc (w0 := w0) w0.heap.size hgd s x 119 58 _ 32 ho Try.underlying119 infoAnc rfl (show 0 < kAnc.sz by decide) (by decide) v xs p (ancC p) (fun _ => True) (fun _ => False) hs hx (kAnc_mk _ _ _ p) (fun _ h => h.elim) (fun _ _ => trivial) HR.out HB.out HB.out.size (by omega) ?_
  intro v1 w1 h1 h2 _ _
  rw [hz] at h1
  obtain ⟨A1, c1, rfl, h3, _⟩ := Kd.R_reads h1
  rw [hn.out] at h1 h3 ⊢
  exact h A1 c1 w1 h3 (Lib.hid h1) (Lib.hid h2)
end

/-- The greater of those that count. -/
def findA (r0 r1 : Option Anc) : Option Anc :=
  match r0.filter (fun x => x.n % 2 == 0), r1.filter (fun x => x.n % 2 == 1) with
  | none, none => none
  | some x, none => some x
  | none, some y => some y
  | some x, some y => if x.n < y.n then some y else some x
@[reducible] def findV (r : Option Anc) : Value := .tuple #[agg4 (r.getD ⟨0, 0, 0, 0⟩).n (r.getD ⟨0, 0, 0, 0⟩).e (r.getD ⟨0, 0, 0, 0⟩).a (r.getD ⟨0, 0, 0, 0⟩).w, .int .i64 (if r.isSome then 0 else 5)]

theorem max_lt (W : World) (g c : Nat) (n e a w n' e' a' w' : Int) (c0 : W.cell? ⟨g, 0, none⟩ = some (.int .i64 n)) (c1 : W.cell? ⟨g, 1, none⟩ = some (.int .i64 e)) (c2 : W.cell? ⟨g, 2, none⟩ = some (.int .i64 a)) (c3 : W.cell? ⟨g, 3, none⟩ = some (.int .i64 w)) (c4 : W.cell? ⟨g, 4, none⟩ = some (.int .i64 n')) (c5 : W.cell? ⟨g, 5, none⟩ = some (.int .i64 e')) (c6 : W.cell? ⟨g, 6, none⟩ = some (.int .i64 a')) (c7 : W.cell? ⟨g, 7, none⟩ = some (.int .i64 w')) (hc : 2 ≤ c) (h : n < n') :
    Calls Try.prog 82 #[.slice (some ⟨g, 0, none⟩) 2 c, .func (.func 83) #[] #[]] W fun en W' => en = .returned (agg4 n' e' a' w') ∧ Below W.heap.size W W' := by
  have H := max_two W g c n e a w n' e' a' w' c0 c1 c2 c3 c4 c5 c6 c7 hc
  rw [if_pos h] at H
  exact H
theorem max_ge (W : World) (g c : Nat) (n e a w n' e' a' w' : Int) (c0 : W.cell? ⟨g, 0, none⟩ = some (.int .i64 n)) (c1 : W.cell? ⟨g, 1, none⟩ = some (.int .i64 e)) (c2 : W.cell? ⟨g, 2, none⟩ = some (.int .i64 a)) (c3 : W.cell? ⟨g, 3, none⟩ = some (.int .i64 w)) (c4 : W.cell? ⟨g, 4, none⟩ = some (.int .i64 n')) (c5 : W.cell? ⟨g, 5, none⟩ = some (.int .i64 e')) (c6 : W.cell? ⟨g, 6, none⟩ = some (.int .i64 a')) (c7 : W.cell? ⟨g, 7, none⟩ = some (.int .i64 w')) (hc : 2 ≤ c) (h : n' ≤ n) :
    Calls Try.prog 82 #[.slice (some ⟨g, 0, none⟩) 2 c, .func (.func 83) #[] #[]] W fun en W' => en = .returned (agg4 n e a w) ∧ Below W.heap.size W W' := by
  have H := max_two W g c n e a w n' e' a' w' c0 c1 c2 c3 c4 c5 c6 c7 hc
  rw [if_neg (by omega)] at H
  exact H

set_option maxRecDepth 100000 in
set_option maxHeartbeats 4000000 in
theorem find_00 (W : World) (p : Option Addr) (s0 s1 s2 s3 s4 s5 s6 s7 t0 t1 t2 t3 t4 t5 t6 t7 : Int) (x y : Anc) (o0 o1 : Bool) (gx : 0 ≤ x.n) (gy : 0 ≤ y.n) (k0 : o0 = false ∨ (o0 = true ∧ (x.n % 2 == 0) = false)) (k1 : o1 = false ∨ (o1 = true ∧ (y.n % 2 == 1) = false))
    (HD0 : ∀ V, Hid (Below W.heap.size W V) → Calls Try.prog 67 #[.pointer p, .int .i64 0] V fun en V' => en = .returned (.tuple #[agg8 s0 s1 s2 s3 s4 s5 s6 s7, .int .i64 0]) ∧ Below V.heap.size V V')
    (HD1 : ∀ V, Hid (Below W.heap.size W V) → Calls Try.prog 67 #[.pointer p, .int .i64 1] V fun en V' => en = .returned (.tuple #[agg8 t0 t1 t2 t3 t4 t5 t6 t7, .int .i64 0]) ∧ Below V.heap.size V V')
    (HA0 : ∀ V, Calls Try.prog 41 #[agg8 s0 s1 s2 s3 s4 s5 s6 s7] V fun en V' => en = .returned (.tuple #[agg4 x.n x.e x.a x.w, .bool o0]) ∧ Below V.heap.size V V')
    (HA1 : ∀ V, Calls Try.prog 41 #[agg8 t0 t1 t2 t3 t4 t5 t6 t7] V fun en V' => en = .returned (.tuple #[agg4 y.n y.e y.a y.w, .bool o1]) ∧ Below V.heap.size V V') :
    Calls Try.prog 47 #[.pointer p] W fun en W' => en = .returned (.tuple #[agg4 0 0 0 0, .int .i64 5]) ∧ Below W.heap.size W W' := by
  have HD0 := Lib.hid HD0
  have HD1 := Lib.hid HD1
  have HA0 := Lib.hid HA0
  have HA1 := Lib.hid HA1

  obtain ⟨V, hV⟩ : ∃ V, V = W.alloc (.cells #[.int .i64 0, .int .i64 0, .int .i64 0, .int .i64 0] 58) := ⟨_, rfl⟩
  have HBV : Hid (Below W.heap.size W V) := by rw [hV]; exact Lib.hid ((Below.refl _ W).alloc (Nat.le_refl _) _)
  have BV : Hid (Blk V W.heap.size [.int .i64 0, .int .i64 0, .int .i64 0, .int .i64 0] 58) := by rw [hV]; exact Lib.hid (Blk.new W [.int .i64 0, .int .i64 0, .int .i64 0, .int .i64 0] 58)
  have K0 := Lib.hid (Below.refl V.heap.size V)
  have R0 := Lib.hid (Kd.R_nil kAnc 58 V V.heap.size (fun _ => True))
  have len1 : ∀ z : Anc, Hid ([z].length = 1) := fun z => Lib.hid rfl
  have len2 : Hid ([x, y].length = 2) := Lib.hid rfl
  have hVs : W.heap.size < V.heap.size := by rw [hV]; simp
  rcases k0 with rfl | ⟨rfl, j0⟩
  all_goals
    rcases k1 with rfl | ⟨rfl, j1⟩
  all_goals
    go_enter Try.func47, Try.ntmps47
    go_wp2
    rw [← hV]
    clear hV
    refine wp_loop_rounds 3 ?_
    rw [rounds_succ]
    go_wp2_with (first
      | (go_at_call 67; (with_reducible refine (HD0.out _ (Lib.hid (HBV.out.trans (K0.out.mono HBV.out.size)))).mono ?_); rintro en w1 ⟨rfl, hb⟩; have K1 := Lib.hid (below_alloc' (K0.out.trans hb) (Nat.le_refl _) (.cells #[.int .u64 s0, .int .u64 s1, .int .u64 s2, .int .u64 s3, .int .u64 s4, .int .u64 s5, .int .u64 s6, .int .u64 s7] 59)); clear hb)
      | (go_at_call 41; (with_reducible refine (HA0.out _).mono ?_); rintro en w2 ⟨rfl, hb⟩; have hk2 := K1.out.trans (hb.mono K1.out.size); have K2 := Lib.hid (below_alloc' hk2 (Nat.le_refl _) (.cells #[.int .i64 x.n, .int .i64 x.e, .int .i64 x.a, .int .i64 x.w] 58)); have z2 : Hid (w2.alloc (.cells #[.int .i64 x.n, .int .i64 x.e, .int .i64 x.a, .int .i64 x.w] 58) = w2.alloc (.cells #[.int .i64 x.n, .int .i64 x.e, .int .i64 x.a, .int .i64 x.w] 58)) := Lib.hid rfl; clear hb hk2))
    rw [rounds_succ]
    go_wp2_with (first
      | (go_at_call 67; (with_reducible refine (HD1.out _ (Lib.hid (HBV.out.trans (K2.out.mono HBV.out.size)))).mono ?_); rintro en w4 ⟨rfl, hb⟩; have K4 := Lib.hid (below_alloc' (K2.out.trans (hb.mono K2.out.size)) (Nat.le_refl _) (.cells #[.int .u64 t0, .int .u64 t1, .int .u64 t2, .int .u64 t3, .int .u64 t4, .int .u64 t5, .int .u64 t6, .int .u64 t7] 59)); clear hb)
      | (go_at_call 41; (with_reducible refine (HA1.out _).mono ?_); rintro en w5 ⟨rfl, hb⟩; have hk5 := K4.out.trans (hb.mono K4.out.size); have K5' := Lib.hid hk5; have K5 := Lib.hid (below_alloc' hk5 (Nat.le_refl _) (.cells #[.int .i64 y.n, .int .i64 y.e, .int .i64 y.a, .int .i64 y.w] 58)); clear hb hk5))
    rw [rounds_succ]
    have q2 := (BV.out.below K5'.out).cell
    have f2 := (BV.out.below K5'.out).frozen
    have z2' := (BV.out.below K5'.out).lt
    have HBZ := Lib.hid (HBV.out.trans (K5'.out.mono HBV.out.size))
    go_wp2
    exact bodyPost_ret (v := .tuple #[agg4 0 0 0 0, .int .i64 5]) (by simp [results, Try.results47, go_sem, q2, f2, z2']) rfl ⟨rfl, below_alloc' (below_set4 HBZ.out (Nat.le_refl _) _ _ _ _) (Nat.le_refl _) _⟩
set_option maxRecDepth 100000 in
set_option maxHeartbeats 4000000 in
theorem find_10 (W : World) (p : Option Addr) (s0 s1 s2 s3 s4 s5 s6 s7 t0 t1 t2 t3 t4 t5 t6 t7 : Int) (x y : Anc) (o0 o1 : Bool) (gx : 0 ≤ x.n) (gy : 0 ≤ y.n) (k0 : o0 = true ∧ (x.n % 2 == 0) = true) (k1 : o1 = false ∨ (o1 = true ∧ (y.n % 2 == 1) = false))
    (HD0 : ∀ V, Hid (Below W.heap.size W V) → Calls Try.prog 67 #[.pointer p, .int .i64 0] V fun en V' => en = .returned (.tuple #[agg8 s0 s1 s2 s3 s4 s5 s6 s7, .int .i64 0]) ∧ Below V.heap.size V V')
    (HD1 : ∀ V, Hid (Below W.heap.size W V) → Calls Try.prog 67 #[.pointer p, .int .i64 1] V fun en V' => en = .returned (.tuple #[agg8 t0 t1 t2 t3 t4 t5 t6 t7, .int .i64 0]) ∧ Below V.heap.size V V')
    (HA0 : ∀ V, Calls Try.prog 41 #[agg8 s0 s1 s2 s3 s4 s5 s6 s7] V fun en V' => en = .returned (.tuple #[agg4 x.n x.e x.a x.w, .bool o0]) ∧ Below V.heap.size V V')
    (HA1 : ∀ V, Calls Try.prog 41 #[agg8 t0 t1 t2 t3 t4 t5 t6 t7] V fun en V' => en = .returned (.tuple #[agg4 y.n y.e y.a y.w, .bool o1]) ∧ Below V.heap.size V V') :
    Calls Try.prog 47 #[.pointer p] W fun en W' => en = .returned (.tuple #[agg4 x.n x.e x.a x.w, .int .i64 0]) ∧ Below W.heap.size W W' := by
  have HD0 := Lib.hid HD0
  have HD1 := Lib.hid HD1
  have HA0 := Lib.hid HA0
  have HA1 := Lib.hid HA1

  obtain ⟨V, hV⟩ : ∃ V, V = W.alloc (.cells #[.int .i64 0, .int .i64 0, .int .i64 0, .int .i64 0] 58) := ⟨_, rfl⟩
  have HBV : Hid (Below W.heap.size W V) := by rw [hV]; exact Lib.hid ((Below.refl _ W).alloc (Nat.le_refl _) _)
  have BV : Hid (Blk V W.heap.size [.int .i64 0, .int .i64 0, .int .i64 0, .int .i64 0] 58) := by rw [hV]; exact Lib.hid (Blk.new W [.int .i64 0, .int .i64 0, .int .i64 0, .int .i64 0] 58)
  have K0 := Lib.hid (Below.refl V.heap.size V)
  have R0 := Lib.hid (Kd.R_nil kAnc 58 V V.heap.size (fun _ => True))
  have len1 : ∀ z : Anc, Hid ([z].length = 1) := fun z => Lib.hid rfl
  have len2 : Hid ([x, y].length = 2) := Lib.hid rfl
  have hVs : W.heap.size < V.heap.size := by rw [hV]; simp
  obtain ⟨rfl, j0⟩ := k0
  rcases k1 with rfl | ⟨rfl, j1⟩
  all_goals
    go_enter Try.func47, Try.ntmps47
    go_wp2
    rw [← hV]
    clear hV
    refine wp_loop_rounds 3 ?_
    rw [rounds_succ]
    go_wp2_with (first
      | (go_at_call 67; (with_reducible refine (HD0.out _ (Lib.hid (HBV.out.trans (K0.out.mono HBV.out.size)))).mono ?_); rintro en w1 ⟨rfl, hb⟩; have K1 := Lib.hid (below_alloc' (K0.out.trans hb) (Nat.le_refl _) (.cells #[.int .u64 s0, .int .u64 s1, .int .u64 s2, .int .u64 s3, .int .u64 s4, .int .u64 s5, .int .u64 s6, .int .u64 s7] 59)); clear hb)
      | (go_at_call 41; (with_reducible refine (HA0.out _).mono ?_); rintro en w2 ⟨rfl, hb⟩; have hk2 := K1.out.trans (hb.mono K1.out.size); have K2 := Lib.hid (below_alloc' hk2 (Nat.le_refl _) (.cells #[.int .i64 x.n, .int .i64 x.e, .int .i64 x.a, .int .i64 x.w] 58)); have z2 : Hid (w2.alloc (.cells #[.int .i64 x.n, .int .i64 x.e, .int .i64 x.a, .int .i64 x.w] 58) = w2.alloc (.cells #[.int .i64 x.n, .int .i64 x.e, .int .i64 x.a, .int .i64 x.w] 58)) := Lib.hid rfl; clear hb hk2)
      | (at_builtin; refine app_anc (w0 := V) rfl _ _ rfl _ [] x [x] 1 rfl (by simp [go_sem]) rfl (len1 x) (Lib.hid (Kd.R_nil _ _ _ _ _)) K2 (by decide) ?_; intro A3 c3 w3 hl3 HR3 K3))
    rw [rounds_succ]
    go_wp2_with (first
      | (go_at_call 67; (with_reducible refine (HD1.out _ (Lib.hid (HBV.out.trans (K3.out.mono HBV.out.size)))).mono ?_); rintro en w4 ⟨rfl, hb⟩; have K4 := Lib.hid (below_alloc' (K3.out.trans (hb.mono K3.out.size)) (Nat.le_refl _) (.cells #[.int .u64 t0, .int .u64 t1, .int .u64 t2, .int .u64 t3, .int .u64 t4, .int .u64 t5, .int .u64 t6, .int .u64 t7] 59)); have HR4 := Lib.hid (Kd.R_below (Kd.R_below HR3.out hb) ((Below.refl _ _).alloc (Nat.le_refl _) (.cells #[.int .u64 t0, .int .u64 t1, .int .u64 t2, .int .u64 t3, .int .u64 t4, .int .u64 t5, .int .u64 t6, .int .u64 t7] 59))); clear hb)
      | (go_at_call 41; (with_reducible refine (HA1.out _).mono ?_); rintro en w5 ⟨rfl, hb⟩; have hk5 := K4.out.trans (hb.mono K4.out.size); have K5' := Lib.hid hk5; have K5 := Lib.hid (below_alloc' hk5 (Nat.le_refl _) (.cells #[.int .i64 y.n, .int .i64 y.e, .int .i64 y.a, .int .i64 y.w] 58)); have HR5 := Lib.hid (Kd.R_below (Kd.R_below HR4.out hb) ((Below.refl _ _).alloc (Nat.le_refl _) (.cells #[.int .i64 y.n, .int .i64 y.e, .int .i64 y.a, .int .i64 y.w] 58))); clear hb hk5))
    rw [rounds_succ]
    obtain ⟨g, hg, hcell⟩ := ancRow HR5.out (len1 x).out (by decide)
    subst hg
    have c_0_0 : (w5.alloc (.cells #[.int .i64 y.n, .int .i64 y.e, .int .i64 y.a, .int .i64 y.w] 58)).cell? ⟨g, 0, none⟩ = some (.int .i64 x.n) := hcell 0 x rfl 0 _ rfl
    have c_0_1 : (w5.alloc (.cells #[.int .i64 y.n, .int .i64 y.e, .int .i64 y.a, .int .i64 y.w] 58)).cell? ⟨g, 1, none⟩ = some (.int .i64 x.e) := hcell 0 x rfl 1 _ rfl
    have c_0_2 : (w5.alloc (.cells #[.int .i64 y.n, .int .i64 y.e, .int .i64 y.a, .int .i64 y.w] 58)).cell? ⟨g, 2, none⟩ = some (.int .i64 x.a) := hcell 0 x rfl 2 _ rfl
    have c_0_3 : (w5.alloc (.cells #[.int .i64 y.n, .int .i64 y.e, .int .i64 y.a, .int .i64 y.w] 58)).cell? ⟨g, 3, none⟩ = some (.int .i64 x.w) := hcell 0 x rfl 3 _ rfl
    clear hcell
    have HX := Lib.hid (max_one _ g c3 x.n x.e x.a x.w c_0_0 c_0_1 c_0_2 c_0_3)
    clear c_0_0 c_0_1 c_0_2 c_0_3
    go_wp2_with (go_at_call 82; (with_reducible refine HX.out.mono ?_); rintro en w7 ⟨rfl, hb⟩; have K7 := Lib.hid (K5.out.trans (hb.mono K5.out.size)); have q2 := (BV.out.below K7.out).cell; have f2 := (BV.out.below K7.out).frozen; have z2' := (BV.out.below K7.out).lt; have HBZ := Lib.hid (HBV.out.trans (K7.out.mono HBV.out.size)); clear hb)
    exact bodyPost_ret (v := .tuple #[agg4 x.n x.e x.a x.w, .int .i64 0]) (by simp [results, Try.results47, go_sem, q2, f2, z2']) rfl ⟨rfl, below_set4 HBZ.out (Nat.le_refl _) _ _ _ _⟩
set_option maxRecDepth 100000 in
set_option maxHeartbeats 4000000 in
theorem find_01 (W : World) (p : Option Addr) (s0 s1 s2 s3 s4 s5 s6 s7 t0 t1 t2 t3 t4 t5 t6 t7 : Int) (x y : Anc) (o0 o1 : Bool) (gx : 0 ≤ x.n) (gy : 0 ≤ y.n) (k0 : o0 = false ∨ (o0 = true ∧ (x.n % 2 == 0) = false)) (k1 : o1 = true ∧ (y.n % 2 == 1) = true)
    (HD0 : ∀ V, Hid (Below W.heap.size W V) → Calls Try.prog 67 #[.pointer p, .int .i64 0] V fun en V' => en = .returned (.tuple #[agg8 s0 s1 s2 s3 s4 s5 s6 s7, .int .i64 0]) ∧ Below V.heap.size V V')
    (HD1 : ∀ V, Hid (Below W.heap.size W V) → Calls Try.prog 67 #[.pointer p, .int .i64 1] V fun en V' => en = .returned (.tuple #[agg8 t0 t1 t2 t3 t4 t5 t6 t7, .int .i64 0]) ∧ Below V.heap.size V V')
    (HA0 : ∀ V, Calls Try.prog 41 #[agg8 s0 s1 s2 s3 s4 s5 s6 s7] V fun en V' => en = .returned (.tuple #[agg4 x.n x.e x.a x.w, .bool o0]) ∧ Below V.heap.size V V')
    (HA1 : ∀ V, Calls Try.prog 41 #[agg8 t0 t1 t2 t3 t4 t5 t6 t7] V fun en V' => en = .returned (.tuple #[agg4 y.n y.e y.a y.w, .bool o1]) ∧ Below V.heap.size V V') :
    Calls Try.prog 47 #[.pointer p] W fun en W' => en = .returned (.tuple #[agg4 y.n y.e y.a y.w, .int .i64 0]) ∧ Below W.heap.size W W' := by
  have HD0 := Lib.hid HD0
  have HD1 := Lib.hid HD1
  have HA0 := Lib.hid HA0
  have HA1 := Lib.hid HA1

  obtain ⟨V, hV⟩ : ∃ V, V = W.alloc (.cells #[.int .i64 0, .int .i64 0, .int .i64 0, .int .i64 0] 58) := ⟨_, rfl⟩
  have HBV : Hid (Below W.heap.size W V) := by rw [hV]; exact Lib.hid ((Below.refl _ W).alloc (Nat.le_refl _) _)
  have BV : Hid (Blk V W.heap.size [.int .i64 0, .int .i64 0, .int .i64 0, .int .i64 0] 58) := by rw [hV]; exact Lib.hid (Blk.new W [.int .i64 0, .int .i64 0, .int .i64 0, .int .i64 0] 58)
  have K0 := Lib.hid (Below.refl V.heap.size V)
  have R0 := Lib.hid (Kd.R_nil kAnc 58 V V.heap.size (fun _ => True))
  have len1 : ∀ z : Anc, Hid ([z].length = 1) := fun z => Lib.hid rfl
  have len2 : Hid ([x, y].length = 2) := Lib.hid rfl
  have hVs : W.heap.size < V.heap.size := by rw [hV]; simp
  rcases k0 with rfl | ⟨rfl, j0⟩
  all_goals
    obtain ⟨rfl, j1⟩ := k1
  all_goals
    go_enter Try.func47, Try.ntmps47
    go_wp2
    rw [← hV]
    clear hV
    refine wp_loop_rounds 3 ?_
    rw [rounds_succ]
    go_wp2_with (first
      | (go_at_call 67; (with_reducible refine (HD0.out _ (Lib.hid (HBV.out.trans (K0.out.mono HBV.out.size)))).mono ?_); rintro en w1 ⟨rfl, hb⟩; have K1 := Lib.hid (below_alloc' (K0.out.trans hb) (Nat.le_refl _) (.cells #[.int .u64 s0, .int .u64 s1, .int .u64 s2, .int .u64 s3, .int .u64 s4, .int .u64 s5, .int .u64 s6, .int .u64 s7] 59)); clear hb)
      | (go_at_call 41; (with_reducible refine (HA0.out _).mono ?_); rintro en w2 ⟨rfl, hb⟩; have hk2 := K1.out.trans (hb.mono K1.out.size); have K2 := Lib.hid (below_alloc' hk2 (Nat.le_refl _) (.cells #[.int .i64 x.n, .int .i64 x.e, .int .i64 x.a, .int .i64 x.w] 58)); have z2 : Hid (w2.alloc (.cells #[.int .i64 x.n, .int .i64 x.e, .int .i64 x.a, .int .i64 x.w] 58) = w2.alloc (.cells #[.int .i64 x.n, .int .i64 x.e, .int .i64 x.a, .int .i64 x.w] 58)) := Lib.hid rfl; clear hb hk2))
    rw [rounds_succ]
    go_wp2_with (first
      | (go_at_call 67; (with_reducible refine (HD1.out _ (Lib.hid (HBV.out.trans (K2.out.mono HBV.out.size)))).mono ?_); rintro en w4 ⟨rfl, hb⟩; have K4 := Lib.hid (below_alloc' (K2.out.trans (hb.mono K2.out.size)) (Nat.le_refl _) (.cells #[.int .u64 t0, .int .u64 t1, .int .u64 t2, .int .u64 t3, .int .u64 t4, .int .u64 t5, .int .u64 t6, .int .u64 t7] 59)); clear hb)
      | (go_at_call 41; (with_reducible refine (HA1.out _).mono ?_); rintro en w5 ⟨rfl, hb⟩; have hk5 := K4.out.trans (hb.mono K4.out.size); have K5' := Lib.hid hk5; have K5 := Lib.hid (below_alloc' hk5 (Nat.le_refl _) (.cells #[.int .i64 y.n, .int .i64 y.e, .int .i64 y.a, .int .i64 y.w] 58)); clear hb hk5)
      | (at_builtin; refine app_anc (w0 := V) rfl _ _ rfl _ [] y [y] 1 rfl (by simp [go_sem]) rfl (len1 y) (Lib.hid (Kd.R_nil _ _ _ _ _)) K5 (by decide) ?_; intro A6 c6 w6 hl6 HR6 K6))
    rw [rounds_succ]
    obtain ⟨g, hg, hcell⟩ := ancRow HR6.out (len1 y).out (by decide)
    subst hg
    have c_0_0 : w6.cell? ⟨g, 0, none⟩ = some (.int .i64 y.n) := hcell 0 y rfl 0 _ rfl
    have c_0_1 : w6.cell? ⟨g, 1, none⟩ = some (.int .i64 y.e) := hcell 0 y rfl 1 _ rfl
    have c_0_2 : w6.cell? ⟨g, 2, none⟩ = some (.int .i64 y.a) := hcell 0 y rfl 2 _ rfl
    have c_0_3 : w6.cell? ⟨g, 3, none⟩ = some (.int .i64 y.w) := hcell 0 y rfl 3 _ rfl
    clear hcell
    have HX := Lib.hid (max_one _ g c6 y.n y.e y.a y.w c_0_0 c_0_1 c_0_2 c_0_3)
    clear c_0_0 c_0_1 c_0_2 c_0_3
    go_wp2_with (go_at_call 82; (with_reducible refine HX.out.mono ?_); rintro en w7 ⟨rfl, hb⟩; have K7 := Lib.hid (K6.out.trans (hb.mono K6.out.size)); have q2 := (BV.out.below K7.out).cell; have f2 := (BV.out.below K7.out).frozen; have z2' := (BV.out.below K7.out).lt; have HBZ := Lib.hid (HBV.out.trans (K7.out.mono HBV.out.size)); clear hb)
    exact bodyPost_ret (v := .tuple #[agg4 y.n y.e y.a y.w, .int .i64 0]) (by simp [results, Try.results47, go_sem, q2, f2, z2']) rfl ⟨rfl, below_set4 HBZ.out (Nat.le_refl _) _ _ _ _⟩
set_option maxRecDepth 100000 in
set_option maxHeartbeats 4000000 in
theorem find_lt (W : World) (p : Option Addr) (s0 s1 s2 s3 s4 s5 s6 s7 t0 t1 t2 t3 t4 t5 t6 t7 : Int) (x y : Anc) (o0 o1 : Bool) (gx : 0 ≤ x.n) (gy : 0 ≤ y.n) (k0 : o0 = true ∧ (x.n % 2 == 0) = true) (k1 : o1 = true ∧ (y.n % 2 == 1) = true) (hxy : x.n < y.n)
    (HD0 : ∀ V, Hid (Below W.heap.size W V) → Calls Try.prog 67 #[.pointer p, .int .i64 0] V fun en V' => en = .returned (.tuple #[agg8 s0 s1 s2 s3 s4 s5 s6 s7, .int .i64 0]) ∧ Below V.heap.size V V')
    (HD1 : ∀ V, Hid (Below W.heap.size W V) → Calls Try.prog 67 #[.pointer p, .int .i64 1] V fun en V' => en = .returned (.tuple #[agg8 t0 t1 t2 t3 t4 t5 t6 t7, .int .i64 0]) ∧ Below V.heap.size V V')
    (HA0 : ∀ V, Calls Try.prog 41 #[agg8 s0 s1 s2 s3 s4 s5 s6 s7] V fun en V' => en = .returned (.tuple #[agg4 x.n x.e x.a x.w, .bool o0]) ∧ Below V.heap.size V V')
    (HA1 : ∀ V, Calls Try.prog 41 #[agg8 t0 t1 t2 t3 t4 t5 t6 t7] V fun en V' => en = .returned (.tuple #[agg4 y.n y.e y.a y.w, .bool o1]) ∧ Below V.heap.size V V') :
    Calls Try.prog 47 #[.pointer p] W fun en W' => en = .returned (.tuple #[agg4 y.n y.e y.a y.w, .int .i64 0]) ∧ Below W.heap.size W W' := by
  have HD0 := Lib.hid HD0
  have HD1 := Lib.hid HD1
  have HA0 := Lib.hid HA0
  have HA1 := Lib.hid HA1

  obtain ⟨V, hV⟩ : ∃ V, V = W.alloc (.cells #[.int .i64 0, .int .i64 0, .int .i64 0, .int .i64 0] 58) := ⟨_, rfl⟩
  have HBV : Hid (Below W.heap.size W V) := by rw [hV]; exact Lib.hid ((Below.refl _ W).alloc (Nat.le_refl _) _)
  have BV : Hid (Blk V W.heap.size [.int .i64 0, .int .i64 0, .int .i64 0, .int .i64 0] 58) := by rw [hV]; exact Lib.hid (Blk.new W [.int .i64 0, .int .i64 0, .int .i64 0, .int .i64 0] 58)
  have K0 := Lib.hid (Below.refl V.heap.size V)
  have R0 := Lib.hid (Kd.R_nil kAnc 58 V V.heap.size (fun _ => True))
  have len1 : ∀ z : Anc, Hid ([z].length = 1) := fun z => Lib.hid rfl
  have len2 : Hid ([x, y].length = 2) := Lib.hid rfl
  have hVs : W.heap.size < V.heap.size := by rw [hV]; simp
  obtain ⟨rfl, j0⟩ := k0
  obtain ⟨rfl, j1⟩ := k1
  all_goals
    go_enter Try.func47, Try.ntmps47
    go_wp2
    rw [← hV]
    clear hV
    refine wp_loop_rounds 3 ?_
    rw [rounds_succ]
    go_wp2_with (first
      | (go_at_call 67; (with_reducible refine (HD0.out _ (Lib.hid (HBV.out.trans (K0.out.mono HBV.out.size)))).mono ?_); rintro en w1 ⟨rfl, hb⟩; have K1 := Lib.hid (below_alloc' (K0.out.trans hb) (Nat.le_refl _) (.cells #[.int .u64 s0, .int .u64 s1, .int .u64 s2, .int .u64 s3, .int .u64 s4, .int .u64 s5, .int .u64 s6, .int .u64 s7] 59)); clear hb)
      | (go_at_call 41; (with_reducible refine (HA0.out _).mono ?_); rintro en w2 ⟨rfl, hb⟩; have hk2 := K1.out.trans (hb.mono K1.out.size); have K2 := Lib.hid (below_alloc' hk2 (Nat.le_refl _) (.cells #[.int .i64 x.n, .int .i64 x.e, .int .i64 x.a, .int .i64 x.w] 58)); have z2 : Hid (w2.alloc (.cells #[.int .i64 x.n, .int .i64 x.e, .int .i64 x.a, .int .i64 x.w] 58) = w2.alloc (.cells #[.int .i64 x.n, .int .i64 x.e, .int .i64 x.a, .int .i64 x.w] 58)) := Lib.hid rfl; clear hb hk2)
      | (at_builtin; refine app_anc (w0 := V) rfl _ _ rfl _ [] x [x] 1 rfl (by simp [go_sem]) rfl (len1 x) (Lib.hid (Kd.R_nil _ _ _ _ _)) K2 (by decide) ?_; intro A3 c3 w3 hl3 HR3 K3))
    rw [rounds_succ]
    go_wp2_with (first
      | (go_at_call 67; (with_reducible refine (HD1.out _ (Lib.hid (HBV.out.trans (K3.out.mono HBV.out.size)))).mono ?_); rintro en w4 ⟨rfl, hb⟩; have K4 := Lib.hid (below_alloc' (K3.out.trans (hb.mono K3.out.size)) (Nat.le_refl _) (.cells #[.int .u64 t0, .int .u64 t1, .int .u64 t2, .int .u64 t3, .int .u64 t4, .int .u64 t5, .int .u64 t6, .int .u64 t7] 59)); have HR4 := Lib.hid (Kd.R_below (Kd.R_below HR3.out hb) ((Below.refl _ _).alloc (Nat.le_refl _) (.cells #[.int .u64 t0, .int .u64 t1, .int .u64 t2, .int .u64 t3, .int .u64 t4, .int .u64 t5, .int .u64 t6, .int .u64 t7] 59))); clear hb)
      | (go_at_call 41; (with_reducible refine (HA1.out _).mono ?_); rintro en w5 ⟨rfl, hb⟩; have hk5 := K4.out.trans (hb.mono K4.out.size); have K5' := Lib.hid hk5; have K5 := Lib.hid (below_alloc' hk5 (Nat.le_refl _) (.cells #[.int .i64 y.n, .int .i64 y.e, .int .i64 y.a, .int .i64 y.w] 58)); have HR5 := Lib.hid (Kd.R_below (Kd.R_below HR4.out hb) ((Below.refl _ _).alloc (Nat.le_refl _) (.cells #[.int .i64 y.n, .int .i64 y.e, .int .i64 y.a, .int .i64 y.w] 58))); clear hb hk5)
      | (at_builtin; refine app_anc (w0 := V) rfl _ _ rfl (.slice A3 1 c3) [x] y [x, y] 2 rfl (by simp [go_sem]) rfl len2 HR5 K5 (by decide) ?_; intro A6 c6 w6 hl6 HR6 K6))
    rw [rounds_succ]
    obtain ⟨g, hg, hcell⟩ := ancRow HR6.out len2.out (by decide)
    subst hg
    have c_0_0 : w6.cell? ⟨g, 0, none⟩ = some (.int .i64 x.n) := hcell 0 x rfl 0 _ rfl
    have c_0_1 : w6.cell? ⟨g, 1, none⟩ = some (.int .i64 x.e) := hcell 0 x rfl 1 _ rfl
    have c_0_2 : w6.cell? ⟨g, 2, none⟩ = some (.int .i64 x.a) := hcell 0 x rfl 2 _ rfl
    have c_0_3 : w6.cell? ⟨g, 3, none⟩ = some (.int .i64 x.w) := hcell 0 x rfl 3 _ rfl
    have c_1_0 : w6.cell? ⟨g, 4, none⟩ = some (.int .i64 y.n) := hcell 1 y rfl 0 _ rfl
    have c_1_1 : w6.cell? ⟨g, 5, none⟩ = some (.int .i64 y.e) := hcell 1 y rfl 1 _ rfl
    have c_1_2 : w6.cell? ⟨g, 6, none⟩ = some (.int .i64 y.a) := hcell 1 y rfl 2 _ rfl
    have c_1_3 : w6.cell? ⟨g, 7, none⟩ = some (.int .i64 y.w) := hcell 1 y rfl 3 _ rfl
    clear hcell
    have HX := Lib.hid (max_lt _ g c6 x.n x.e x.a x.w y.n y.e y.a y.w c_0_0 c_0_1 c_0_2 c_0_3 c_1_0 c_1_1 c_1_2 c_1_3 hl6 hxy)
    clear c_0_0 c_0_1 c_0_2 c_0_3 c_1_0 c_1_1 c_1_2 c_1_3
    go_wp2_with (go_at_call 82; (with_reducible refine HX.out.mono ?_); rintro en w7 ⟨rfl, hb⟩; have K7 := Lib.hid (K6.out.trans (hb.mono K6.out.size)); have q2 := (BV.out.below K7.out).cell; have f2 := (BV.out.below K7.out).frozen; have z2' := (BV.out.below K7.out).lt; have HBZ := Lib.hid (HBV.out.trans (K7.out.mono HBV.out.size)); clear hb)
    exact bodyPost_ret (v := .tuple #[agg4 y.n y.e y.a y.w, .int .i64 0]) (by simp [results, Try.results47, go_sem, q2, f2, z2']) rfl ⟨rfl, below_set4 HBZ.out (Nat.le_refl _) _ _ _ _⟩
set_option maxRecDepth 100000 in
set_option maxHeartbeats 4000000 in
theorem find_ge (W : World) (p : Option Addr) (s0 s1 s2 s3 s4 s5 s6 s7 t0 t1 t2 t3 t4 t5 t6 t7 : Int) (x y : Anc) (o0 o1 : Bool) (gx : 0 ≤ x.n) (gy : 0 ≤ y.n) (k0 : o0 = true ∧ (x.n % 2 == 0) = true) (k1 : o1 = true ∧ (y.n % 2 == 1) = true) (hxy : y.n ≤ x.n)
    (HD0 : ∀ V, Hid (Below W.heap.size W V) → Calls Try.prog 67 #[.pointer p, .int .i64 0] V fun en V' => en = .returned (.tuple #[agg8 s0 s1 s2 s3 s4 s5 s6 s7, .int .i64 0]) ∧ Below V.heap.size V V')
    (HD1 : ∀ V, Hid (Below W.heap.size W V) → Calls Try.prog 67 #[.pointer p, .int .i64 1] V fun en V' => en = .returned (.tuple #[agg8 t0 t1 t2 t3 t4 t5 t6 t7, .int .i64 0]) ∧ Below V.heap.size V V')
    (HA0 : ∀ V, Calls Try.prog 41 #[agg8 s0 s1 s2 s3 s4 s5 s6 s7] V fun en V' => en = .returned (.tuple #[agg4 x.n x.e x.a x.w, .bool o0]) ∧ Below V.heap.size V V')
    (HA1 : ∀ V, Calls Try.prog 41 #[agg8 t0 t1 t2 t3 t4 t5 t6 t7] V fun en V' => en = .returned (.tuple #[agg4 y.n y.e y.a y.w, .bool o1]) ∧ Below V.heap.size V V') :
    Calls Try.prog 47 #[.pointer p] W fun en W' => en = .returned (.tuple #[agg4 x.n x.e x.a x.w, .int .i64 0]) ∧ Below W.heap.size W W' := by
  have HD0 := Lib.hid HD0
  have HD1 := Lib.hid HD1
  have HA0 := Lib.hid HA0
  have HA1 := Lib.hid HA1

  obtain ⟨V, hV⟩ : ∃ V, V = W.alloc (.cells #[.int .i64 0, .int .i64 0, .int .i64 0, .int .i64 0] 58) := ⟨_, rfl⟩
  have HBV : Hid (Below W.heap.size W V) := by rw [hV]; exact Lib.hid ((Below.refl _ W).alloc (Nat.le_refl _) _)
  have BV : Hid (Blk V W.heap.size [.int .i64 0, .int .i64 0, .int .i64 0, .int .i64 0] 58) := by rw [hV]; exact Lib.hid (Blk.new W [.int .i64 0, .int .i64 0, .int .i64 0, .int .i64 0] 58)
  have K0 := Lib.hid (Below.refl V.heap.size V)
  have R0 := Lib.hid (Kd.R_nil kAnc 58 V V.heap.size (fun _ => True))
  have len1 : ∀ z : Anc, Hid ([z].length = 1) := fun z => Lib.hid rfl
  have len2 : Hid ([x, y].length = 2) := Lib.hid rfl
  have hVs : W.heap.size < V.heap.size := by rw [hV]; simp
  obtain ⟨rfl, j0⟩ := k0
  obtain ⟨rfl, j1⟩ := k1
  all_goals
    go_enter Try.func47, Try.ntmps47
    go_wp2
    rw [← hV]
    clear hV
    refine wp_loop_rounds 3 ?_
    rw [rounds_succ]
    go_wp2_with (first
      | (go_at_call 67; (with_reducible refine (HD0.out _ (Lib.hid (HBV.out.trans (K0.out.mono HBV.out.size)))).mono ?_); rintro en w1 ⟨rfl, hb⟩; have K1 := Lib.hid (below_alloc' (K0.out.trans hb) (Nat.le_refl _) (.cells #[.int .u64 s0, .int .u64 s1, .int .u64 s2, .int .u64 s3, .int .u64 s4, .int .u64 s5, .int .u64 s6, .int .u64 s7] 59)); clear hb)
      | (go_at_call 41; (with_reducible refine (HA0.out _).mono ?_); rintro en w2 ⟨rfl, hb⟩; have hk2 := K1.out.trans (hb.mono K1.out.size); have K2 := Lib.hid (below_alloc' hk2 (Nat.le_refl _) (.cells #[.int .i64 x.n, .int .i64 x.e, .int .i64 x.a, .int .i64 x.w] 58)); have z2 : Hid (w2.alloc (.cells #[.int .i64 x.n, .int .i64 x.e, .int .i64 x.a, .int .i64 x.w] 58) = w2.alloc (.cells #[.int .i64 x.n, .int .i64 x.e, .int .i64 x.a, .int .i64 x.w] 58)) := Lib.hid rfl; clear hb hk2)
      | (at_builtin; refine app_anc (w0 := V) rfl _ _ rfl _ [] x [x] 1 rfl (by simp [go_sem]) rfl (len1 x) (Lib.hid (Kd.R_nil _ _ _ _ _)) K2 (by decide) ?_; intro A3 c3 w3 hl3 HR3 K3))
    rw [rounds_succ]
    go_wp2_with (first
      | (go_at_call 67; (with_reducible refine (HD1.out _ (Lib.hid (HBV.out.trans (K3.out.mono HBV.out.size)))).mono ?_); rintro en w4 ⟨rfl, hb⟩; have K4 := Lib.hid (below_alloc' (K3.out.trans (hb.mono K3.out.size)) (Nat.le_refl _) (.cells #[.int .u64 t0, .int .u64 t1, .int .u64 t2, .int .u64 t3, .int .u64 t4, .int .u64 t5, .int .u64 t6, .int .u64 t7] 59)); have HR4 := Lib.hid (Kd.R_below (Kd.R_below HR3.out hb) ((Below.refl _ _).alloc (Nat.le_refl _) (.cells #[.int .u64 t0, .int .u64 t1, .int .u64 t2, .int .u64 t3, .int .u64 t4, .int .u64 t5, .int .u64 t6, .int .u64 t7] 59))); clear hb)
      | (go_at_call 41; (with_reducible refine (HA1.out _).mono ?_); rintro en w5 ⟨rfl, hb⟩; have hk5 := K4.out.trans (hb.mono K4.out.size); have K5' := Lib.hid hk5; have K5 := Lib.hid (below_alloc' hk5 (Nat.le_refl _) (.cells #[.int .i64 y.n, .int .i64 y.e, .int .i64 y.a, .int .i64 y.w] 58)); have HR5 := Lib.hid (Kd.R_below (Kd.R_below HR4.out hb) ((Below.refl _ _).alloc (Nat.le_refl _) (.cells #[.int .i64 y.n, .int .i64 y.e, .int .i64 y.a, .int .i64 y.w] 58))); clear hb hk5)
      | (at_builtin; refine app_anc (w0 := V) rfl _ _ rfl (.slice A3 1 c3) [x] y [x, y] 2 rfl (by simp [go_sem]) rfl len2 HR5 K5 (by decide) ?_; intro A6 c6 w6 hl6 HR6 K6))
    rw [rounds_succ]
    obtain ⟨g, hg, hcell⟩ := ancRow HR6.out len2.out (by decide)
    subst hg
    have c_0_0 : w6.cell? ⟨g, 0, none⟩ = some (.int .i64 x.n) := hcell 0 x rfl 0 _ rfl
    have c_0_1 : w6.cell? ⟨g, 1, none⟩ = some (.int .i64 x.e) := hcell 0 x rfl 1 _ rfl
    have c_0_2 : w6.cell? ⟨g, 2, none⟩ = some (.int .i64 x.a) := hcell 0 x rfl 2 _ rfl
    have c_0_3 : w6.cell? ⟨g, 3, none⟩ = some (.int .i64 x.w) := hcell 0 x rfl 3 _ rfl
    have c_1_0 : w6.cell? ⟨g, 4, none⟩ = some (.int .i64 y.n) := hcell 1 y rfl 0 _ rfl
    have c_1_1 : w6.cell? ⟨g, 5, none⟩ = some (.int .i64 y.e) := hcell 1 y rfl 1 _ rfl
    have c_1_2 : w6.cell? ⟨g, 6, none⟩ = some (.int .i64 y.a) := hcell 1 y rfl 2 _ rfl
    have c_1_3 : w6.cell? ⟨g, 7, none⟩ = some (.int .i64 y.w) := hcell 1 y rfl 3 _ rfl
    clear hcell
    have HX := Lib.hid (max_ge _ g c6 x.n x.e x.a x.w y.n y.e y.a y.w c_0_0 c_0_1 c_0_2 c_0_3 c_1_0 c_1_1 c_1_2 c_1_3 hl6 hxy)
    clear c_0_0 c_0_1 c_0_2 c_0_3 c_1_0 c_1_1 c_1_2 c_1_3
    go_wp2_with (go_at_call 82; (with_reducible refine HX.out.mono ?_); rintro en w7 ⟨rfl, hb⟩; have K7 := Lib.hid (K6.out.trans (hb.mono K6.out.size)); have q2 := (BV.out.below K7.out).cell; have f2 := (BV.out.below K7.out).frozen; have z2' := (BV.out.below K7.out).lt; have HBZ := Lib.hid (HBV.out.trans (K7.out.mono HBV.out.size)); clear hb)
    exact bodyPost_ret (v := .tuple #[agg4 x.n x.e x.a x.w, .int .i64 0]) (by simp [results, Try.results47, go_sem, q2, f2, z2']) rfl ⟨rfl, below_set4 HBZ.out (Nat.le_refl _) _ _ _ _⟩
end Go.Proofs.Ytmeoiennniknlaa.Anchor
