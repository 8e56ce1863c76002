/- For the rows: an argument that is an anchor, or a sector, by value. -/
import Derived.Test.YtmeoiennniknlaaDk
import Derived.ProofKit
import Derived.SizedLaws
import Derived.Lib.SmallJoins
import Derived.OpenShut
namespace Go.Proofs.Ytmeoiennniknlaa
open Go.ChangeShapes Go.WideShapes Go.ChangeAt Go.RowKit Go.Joins Go.Deep
set_option linter.unusedVariables false

section
variable {H : Type} {enc : TypeId × Value → H} {P : Program} {W : World} {base : Nat} {held : Bool}
theorem okWide_array {r : Reach} {b0 n : Nat} {t e : TypeId} {v : Value} (ht : P.underlying t = some (.array n e)) (h : Value.okWide P W r b0 t v) : ∃ cs, v = .agg cs ∧ cs.size = P.cellsOf t := by
  simp only [Value.okWide, ht] at h
  obtain ⟨cs, h1, h2, _⟩ := h
  exact ⟨cs, h1, h2⟩
theorem ancOf {r : Reach} {b0 : Nat} {t : TypeId} {f0 f1 f2 f3 : Field} {v : Value} {d : DataW H} {p : List MemPlace} (hs : P.underlying t = some (.struct #[f0, f1, f2, f3])) (hone : oneCellFields P #[f0, f1, f2, f3] = true) (hC : P.cellsOf t = 4)
    (e0 : P.underlying f0.type = some (.int .i64)) (e1 : P.underlying f1.type = some (.int .i64)) (e2 : P.underlying f2.type = some (.int .i64)) (e3 : P.underlying f3.type = some (.int .i64))
    (hv : Value.okWide P W r b0 t v) (h : DataW.Trod enc P W base (fun _ => true) held t v d p) : ∃ n e a w : Int, v = .agg #[.int .i64 n, .int .i64 e, .int .i64 a, .int .i64 w] := by
  obtain ⟨v0, v1, v2, v3, y0, y1, y2, y3, n, rfl, _, _, h0, h1, h2, h3⟩ := open_agg4 hs hone hC hv h
  obtain ⟨x0, hx0, _⟩ := DataW.trod_int e0 h0
  obtain ⟨x1, hx1, _⟩ := DataW.trod_int e1 h1
  obtain ⟨x2, hx2, _⟩ := DataW.trod_int e2 h2
  obtain ⟨x3, hx3, _⟩ := DataW.trod_int e3 h3
  simp only [List.cons.injEq, and_true] at hx0 hx1 hx2 hx3
  exact ⟨x0, x1, x2, x3, by rw [hx0, hx1, hx2, hx3]⟩
theorem secCells {t e : TypeId} {n : Nat} {cs : List Value} {x : DataW H × List MemPlace} (ht : P.underlying t = some (.array 8 e)) (he : P.underlying e = some (.int .u64)) (hc : P.cellsOf e = 1) (hC : P.cellsOf t = 8)
    (h : DataW.trod enc P W base (fun _ => true) held n t cs = some x) : ∃ s : List Int, cs = Go.Proofs.YtmeoiennniknlaaW.PrintWords.nums .u64 s ∧ Disk.Sec s := by
  obtain ⟨xs, m, _, _, hl, hxl, hel⟩ := DataW.trod_array ht h
  rw [hC] at hl
  rw [hc] at hel
  have key : ∀ i, i < 8 → ∃ z : Int, cs[i]? = some (.int .u64 z) ∧ 0 ≤ z ∧ z < 18446744073709551616 := by
    intro i hi
    have h1 := hel i hi
    rw [List.getElem?_eq_getElem (by omega)] at h1
    obtain ⟨z, hz, _, hw⟩ := DataW.trod_int he h1
    have hb := Go.bounds_u64 hw
    refine ⟨z, ?_, by omega, by omega⟩
    have h2 : ((cs.drop (i * 1)).take 1)[0]? = some (.int .u64 z) := by rw [hz]; rfl
    rw [List.getElem?_take_of_lt (by decide), List.getElem?_drop] at h2
    simpa using h2
  obtain ⟨c0, c1, c2, c3, c4, c5, c6, c7, rfl⟩ : ∃ c0 c1 c2 c3 c4 c5 c6 c7, cs = [c0, c1, c2, c3, c4, c5, c6, c7] := by
    match cs, hl with
    | [c0, c1, c2, c3, c4, c5, c6, c7], _ => exact ⟨c0, c1, c2, c3, c4, c5, c6, c7, rfl⟩
  obtain ⟨z0, e0, b0⟩ := key 0 (by decide)
  obtain ⟨z1, e1, b1⟩ := key 1 (by decide)
  obtain ⟨z2, e2, b2⟩ := key 2 (by decide)
  obtain ⟨z3, e3, b3⟩ := key 3 (by decide)
  obtain ⟨z4, e4, b4⟩ := key 4 (by decide)
  obtain ⟨z5, e5, b5⟩ := key 5 (by decide)
  obtain ⟨z6, e6, b6⟩ := key 6 (by decide)
  obtain ⟨z7, e7, b7⟩ := key 7 (by decide)
  simp only [List.getElem?_cons_zero, List.getElem?_cons_succ, Option.some.injEq] at e0 e1 e2 e3 e4 e5 e6 e7
  subst e0 e1 e2 e3 e4 e5 e6 e7
  refine ⟨[z0, z1, z2, z3, z4, z5, z6, z7], rfl, rfl, ?_⟩
  intro z hz
  simp only [List.mem_cons, List.not_mem_nil, or_false] at hz
  rcases hz with rfl | rfl | rfl | rfl | rfl | rfl | rfl | rfl <;> assumption
theorem secOf {r : Reach} {b0 : Nat} {t e : TypeId} {v : Value} {d : DataW H} {p : List MemPlace} (ht : P.underlying t = some (.array 8 e)) (he : P.underlying e = some (.int .u64)) (hc : P.cellsOf e = 1) (hC : P.cellsOf t = 8)
    (hv : Value.okWide P W r b0 t v) (h : DataW.Trod enc P W base (fun _ => true) held t v d p) :
    ∃ s0 s1 s2 s3 s4 s5 s6 s7 : Int, v = .agg #[.int .u64 s0, .int .u64 s1, .int .u64 s2, .int .u64 s3, .int .u64 s4, .int .u64 s5, .int .u64 s6, .int .u64 s7] ∧ Disk.Sec [s0, s1, s2, s3, s4, s5, s6, s7] := by
  obtain ⟨cs, rfl, _⟩ := okWide_array ht hv
  obtain ⟨n, hf⟩ := h
  obtain ⟨s, h1, h2⟩ := secCells ht he hc hC hf
  obtain ⟨s0, s1, s2, s3, s4, s5, s6, s7, rfl⟩ := h2.open
  refine ⟨s0, s1, s2, s3, s4, s5, s6, s7, ?_, h2⟩
  have h3 : cs.toList = Go.Proofs.YtmeoiennniknlaaW.PrintWords.nums .u64 [s0, s1, s2, s3, s4, s5, s6, s7] := h1
  have h4 : cs = (Go.Proofs.YtmeoiennniknlaaW.PrintWords.nums .u64 [s0, s1, s2, s3, s4, s5, s6, s7]).toArray := by rw [← h3]
  rw [h4]; rfl
end
end Go.Proofs.Ytmeoiennniknlaa
