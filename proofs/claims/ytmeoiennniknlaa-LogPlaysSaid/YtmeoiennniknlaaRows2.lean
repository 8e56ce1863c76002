/- For the rows: an argument that is a slice of structs, read as rows of cells; slices of frames. -/
import Derived.Test.YtmeoiennniknlaaFrC
import Derived.Test.YtmeoiennniknlaaWSized
namespace Go.Proofs.Ytmeoiennniknlaa
open Go.ChangeShapes Go.WideShapes Go.ChangeAt Go.RowKit Go.Joins Go.Deep
open Go.Proofs.YtmeoiennniknlaaW.PrintWords (Kd)
open Go.Proofs.Ytmeoiennniknlaa.Frames (Fr kF WS)
set_option linter.unusedVariables false

theorem listOf {α : Type} {p : Nat → α → Prop} : ∀ n, (∀ i, i < n → ∃ x, p i x) → ∃ l : List α, l.length = n ∧ ∀ i x, l[i]? = some x → p i x
  | 0, _ => ⟨[], rfl, fun i x h => by simp at h⟩
  | n + 1, h => by
    obtain ⟨l, hl, hp⟩ := listOf n (fun i hi => h i (Nat.lt_succ_of_lt hi))
    obtain ⟨x, hx⟩ := h n (Nat.lt_succ_self n)
    refine ⟨l ++ [x], by simp [hl], fun i y hy => ?_⟩
    rcases Nat.lt_or_ge i l.length with h1 | h1
    · rw [List.getElem?_append_left h1] at hy
      exact hp i y hy
    · rw [List.getElem?_append_right h1] at hy
      have hi := (List.getElem?_eq_some_iff.1 hy).1
      simp only [List.length_cons, List.length_nil, Nat.zero_add, Nat.lt_one_iff] at hi
      rw [hi] at hy
      simp only [List.getElem?_cons_zero, Option.some.injEq] at hy
      subst hy
      rwa [show i = n by omega]

section
variable {H : Type} {enc : TypeId × Value → H} {P : Program} {W : World} {base : Nat} {held : Bool}

/-- A slice of rows of cells. -/
theorem rowsOf {α : Type} (d : Kd α) (Qx : α → Prop) {t e : TypeId} {a : Option Addr} {len cap : Nat} {D : DataW H} {ps : List MemPlace} (hu : P.underlying t = some (.slice e)) (hc : P.cellsOf e = d.sz)
    (hel : ∀ n cs y, DataW.trod enc P W base (fun _ => true) held n e cs = some y → cs.length = d.sz → ∃ x, d.K W x cs ∧ Qx x) (h : DataW.Trod enc P W base (fun _ => true) held t (.slice a len cap) D ps) :
    ∃ l : List α, len = l.length ∧ d.C W a l.length l ∧ l.length ≤ maxLen ∧ l.length ≤ cap ∧ ∀ x ∈ l, Qx x := by
  obtain ⟨fuel, hf⟩ := h
  rcases DataW.trod_slice hu hf with ⟨hcs, _⟩ | ⟨ad, len', cap', elems, rest, n, _, hcs, _, hb, hl, hm, hlen, hel', _⟩
  · simp [Value.cells] at hcs
    obtain ⟨rfl, rfl, rfl⟩ := hcs
    exact ⟨[], rfl, ⟨rfl, by simp, fun h => absurd h (Nat.lt_irrefl 0)⟩, by simp, by simp, fun x hx => by cases hx⟩
  · simp [Value.cells] at hcs
    obtain ⟨rfl, rfl, rfl⟩ := hcs
    have key : ∀ i, i < len → ∃ x : α, Qx x ∧ ∃ cs, cs.length = d.sz ∧ d.K W x cs ∧ ∀ j u, cs[j]? = some u → W.cell? (ad.add (i * d.sz + j)) = some u := by
      intro i hi
      have h1 := hel' i hi
      have h2 : ∃ y, elems[i]? = some y := ⟨elems[i]'(by omega), List.getElem?_eq_getElem (by omega)⟩
      obtain ⟨y, hy⟩ := h2
      rw [hy, Option.bind_eq_some_iff] at h1
      obtain ⟨cs, h3, h4⟩ := h1
      obtain ⟨_, h5, h6⟩ := World.cells?_some h3
      rw [hc] at h5 h6
      obtain ⟨x, h7, h8⟩ := hel n cs y h4 h5
      refine ⟨x, h8, cs, h5, h7, fun j u hu => ?_⟩
      have hj : j < d.sz := by have := (List.getElem?_eq_some_iff.1 hu).1; omega
      have h9 := h6 j hj
      rw [Go.Proofs.YtmeoiennniknlaaW.PrintWords.add_add, hu] at h9
      exact h9
    obtain ⟨l, h1, h2⟩ := listOf len key
    subst h1
    refine ⟨l, rfl, ⟨rfl, by unfold maxLen at hm; omega, fun _ => ⟨ad, rfl, fun j p hp => ?_⟩⟩, Nat.le_trans hl hm, hl, fun x hx => ?_⟩
    · obtain ⟨_, cs, h3, h4, h5⟩ := h2 j p hp
      exact ⟨cs, h3, h4, h5⟩
    · obtain ⟨i, hi⟩ := List.getElem?_of_mem hx
      exact (h2 i x hi).1

/-- What it weighs. -/
theorem sized_rows {t e : TypeId} {a : Option Addr} {len cap : Nat} {d : DataW H} {ps : List MemPlace} {ts : List TypeId} {ds : List (DataW H)} {j : Nat}
    (hsz : (DataW.weightsEach P ts ds).all (· ≤ reachBytes) = true) (ht : ts[j]? = some t) (hd : ds[j]? = some d) (hu : P.underlying t = some (.slice e)) {B : Nat} (hB : P.bytesOf e = B)
    (h : DataW.Trod enc P W base (fun _ => true) held t (.slice a len cap) d ps) : len * B ≤ 140737488351232 := by
  obtain ⟨fuel, hf⟩ := h
  rcases DataW.trod_slice hu hf with ⟨hcs, _⟩ | ⟨ad, len', cap', elems, rest, n, _, hcs, hx, hb, hl, hm, hlen, hel', _⟩
  · simp [Value.cells] at hcs
    obtain ⟨rfl, rfl, rfl⟩ := hcs
    simp
  · simp [Value.cells] at hcs
    obtain ⟨rfl, rfl, rfl⟩ := hcs
    obtain ⟨hx, _⟩ := Prod.mk.inj hx
    subst hx
    have z := sized_slice hsz ht hd hu
    rw [hB, List.length_map, List.length_map, hlen] at z
    exact Nat.le_trans (Nat.mul_le_mul_right _ (Nat.le_add_right _ _)) z

theorem frameCells {t e : TypeId} {f0 f1 : Field} {n : Nat} {cs : List Value} {y : DataW H × List MemPlace} (hs : P.underlying t = some (.struct #[f0, f1])) (o0 : f0.offset = 0) (o1 : f1.offset = 1) (c0 : P.cellsOf f0.type = 1) (c1 : P.cellsOf f1.type = 1)
    (e0 : P.underlying f0.type = some (.int .i64)) (e1 : P.underlying f1.type = some (.slice e)) (he : P.underlying e = some (.int .u64)) (hc : P.cellsOf e = 1)
    (h : DataW.trod enc P W base (fun _ => true) held n t cs = some y) (hl : cs.length = 2) : ∃ x : Fr, kF.K W x cs ∧ (WS x.f1 ∧ x.f1.length ≤ maxLen) := by
  obtain ⟨y0, y1, m, _, _, h0, h1⟩ := trod_struct2 hs h
  obtain ⟨v0, v1, rfl⟩ : ∃ v0 v1, cs = [v0, v1] := by
    match cs, hl with
    | [v0, v1], _ => exact ⟨v0, v1, rfl⟩
  rw [o0, c0] at h0
  rw [o1, c1] at h1
  simp only [List.drop_zero, List.take_succ_cons, List.take_zero] at h0
  simp only [List.drop_succ_cons, List.drop_zero, List.take_succ_cons, List.take_zero] at h1
  obtain ⟨x, hx, _⟩ := DataW.trod_int e0 h0
  obtain ⟨a, l, cap, rfl, g1, g2, g3, g4⟩ := fieldSlice e1 he hc h1
  simp only [List.cons.injEq, and_true] at hx
  subst hx
  exact ⟨⟨x, l⟩, PFramesGet.k40_mk W ⟨x, l⟩ g4 g1, ws_of g3, g2⟩
end
end Go.Proofs.Ytmeoiennniknlaa
