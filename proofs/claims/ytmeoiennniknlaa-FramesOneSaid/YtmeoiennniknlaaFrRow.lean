/- For the rows: an argument that is a frame, or a slice of frames, read as cells. -/
import Derived.Test.YtmeoiennniknlaaRowLib
import Derived.Test.YtmeoiennniknlaaFrOne
import Derived.Lib.SmallJoins
namespace Go.Proofs.Ytmeoiennniknlaa
open Go.ChangeShapes Go.WideShapes Go.ChangeAt Go.RowKit Go.Joins Go.Deep
open Go.Proofs.YtmeoiennniknlaaW.PrintWords (Kd)
open Go.Proofs.Ytmeoiennniknlaa.Frames (Fr kF WS)
set_option linter.unusedVariables false

theorem wf_u64 {x : Int} (h : (Lit.int .u64 x).wf = true) : 0 ≤ x ∧ x < 18446744073709551616 := by
  have := Go.bounds_u64 h
  omega
theorem ws_of {l : List Int} (h : ∀ x ∈ l, (Lit.int .u64 x).wf = true) : WS l := fun x hx => wf_u64 (h x hx)

section
variable {H : Type} {enc : TypeId × Value → H} {P : Program} {W : World} {base : Nat} {held : Bool}

/-- A field's slice of whole numbers. -/
theorem fieldSlice {t e : TypeId} {k : IntKind} {n : Nat} {v : Value} {y : DataW H × List MemPlace} (hu : P.underlying t = some (.slice e)) (he : P.underlying e = some (.int k)) (hc : P.cellsOf e = 1)
    (h : DataW.trod enc P W base (fun _ => true) held n t [v] = some y) : ∃ (a : Option Addr) (l : List Int) (cap : Nat), v = .slice a l.length cap ∧ (Kd.int k).C W a l.length l ∧ l.length ≤ maxLen ∧ (∀ x ∈ l, (Lit.int k x).wf = true) ∧ l.length ≤ cap := by
  obtain ⟨a, len, cap, rfl⟩ : ∃ a len cap, v = .slice a len cap := by
    rcases open_ints hu he hc h with ⟨hcs, _⟩ | ⟨x, l, c, zs, hcs, _⟩
    · exact ⟨none, 0, 0, by simpa using hcs⟩
    · exact ⟨some x, l, c, by simpa using hcs⟩
  obtain ⟨l, rfl, h1, h2, h3, h4⟩ := sliceOf (d := y.1) (ps := y.2) hu he hc ⟨n, by simpa [Value.cells] using h⟩
  exact ⟨a, l, cap, rfl, h1, h2, h3, h4⟩

/-- A frame by value. -/
theorem frameOf {r : Reach} {b0 : Nat} {t e : TypeId} {f0 f1 : Field} {v : Value} {d : DataW H} {p : List MemPlace} (hs : P.underlying t = some (.struct #[f0, f1])) (hone : oneCellFields P #[f0, f1] = true) (hC : P.cellsOf t = 2)
    (e0 : P.underlying f0.type = some (.int .i64)) (e1 : P.underlying f1.type = some (.slice e)) (he : P.underlying e = some (.int .u64)) (hc : P.cellsOf e = 1)
    (hv : Value.okWide P W r b0 t v) (h : DataW.Trod enc P W base (fun _ => true) held t v d p) :
    ∃ (x : Int) (a : Option Addr) (l : List Int) (cap : Nat), v = .agg #[.int .i64 x, .slice a l.length cap] ∧ (Kd.int .u64).C W a l.length l ∧ l.length ≤ maxLen ∧ WS l ∧ l.length ≤ cap := by
  obtain ⟨v0, v1, y0, y1, n, rfl, _, _, h0, h1⟩ := open_agg2 hs hone hC hv h
  obtain ⟨x, hx, _⟩ := DataW.trod_int e0 h0
  obtain ⟨a, l, cap, rfl, g1, g2, g3, g4⟩ := fieldSlice e1 he hc h1
  simp only [List.cons.injEq, and_true] at hx
  subst hx
  exact ⟨x, a, l, cap, rfl, g1, g2, ws_of g3, g4⟩
end
namespace Frames
theorem framesOne_law (W : World) (x0 : Int) (w0 : (Lit.int .i64 x0).wf = true) (x1 : Int) (w1 : (Lit.int .i64 x1).wf = true) (x2 : Int) {a2 : Option Addr} {cap2 : Nat} (l2 : List Int) (hm2 : l2.length ≤ maxLen) (hw2 : WS l2) (hc2 : l2.length ≤ cap2) (hr2 : (Kd.int .u64).C W a2 l2.length l2)
    {a3 : Option Addr} {cap3 : Nat} (l3 : List Int) (hm3 : l3.length ≤ maxLen) (y3 : l3.length * 8 ≤ 140737488351232) (hw3 : ∀ x ∈ l3, (Lit.int .u64 x).wf = true) (hc3 : l3.length ≤ cap3) (hr3 : (Kd.int .u64).C W a3 l3.length l3) :
    Calls Try.prog 7 #[.int .i64 x0, .int .i64 x1, .agg #[.int .i64 x2, .slice a2 l2.length cap2], .slice a3 l3.length cap3] W fun e W' => e = .returned (.bool true) ∧ Below W.heap.size W W' :=
  one_any W x0 x1 x2 a2 a3 cap2 cap3 l2 l3 hw2 (ws_of hw3) hc2 (by omega) hr2 hr3
end Frames
end Go.Proofs.Ytmeoiennniknlaa
