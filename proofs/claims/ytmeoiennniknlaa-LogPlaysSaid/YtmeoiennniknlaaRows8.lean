/- For the row of LogPlays: its argument, a slice of operations, opened. -/
import Derived.Test.YtmeoiennniknlaaLgZe
import Derived.Test.YtmeoiennniknlaaRows2
import Derived.Test.YtmeoiennniknlaaRows3
namespace Go.Proofs.Ytmeoiennniknlaa
open Go.ChangeShapes Go.WideShapes Go.ChangeAt Go.RowKit Go.Joins Go.Deep
open Go.Proofs.YtmeoiennniknlaaW.PrintWords (Kd nums)
open Go.Proofs.Ytmeoiennniknlaa.Frames (Fr kF WS)
open Go.Proofs.Ytmeoiennniknlaa.Log (OpV kO Arg)
open Go.Proofs.Ytmeoiennniknlaa.RDisk (BRow)
set_option linter.unusedVariables false

section
variable {H : Type} {enc : TypeId × Value → H} {P : Program} {W : World} {base : Nat} {held : Bool}
/-- A field's slice of words. -/
theorem fieldArg {t e : TypeId} {n : Nat} {v : Value} {y : DataW H × List MemPlace} (hu : P.underlying t = some (.slice e)) (he : P.underlying e = some (.int .u64)) (hc : P.cellsOf e = 1)
    (h : DataW.trod enc P W base (fun _ => true) held n t [v] = some y) : ∃ (a : Option Addr) (l : List Int) (cap : Nat), v = .slice a l.length cap ∧ Arg W a l.length cap l := by
  obtain ⟨a, l, cap, rfl, h1, h2, h3, h4⟩ := fieldSlice hu he hc h
  refine ⟨a, l, cap, rfl, rfl, ws_of h3, h4, fun e0 => ?_, h1⟩
  rcases DataW.trod_slice hu h with ⟨hcs, _⟩ | ⟨ad, len', cap', elems, rest, m, _, hcs, _⟩
  · simp only [List.cons.injEq, Value.slice.injEq, and_true] at hcs
    exact hcs.2.2
  · simp only [List.cons.injEq, Value.slice.injEq, and_true] at hcs
    rw [e0] at hcs
    cases hcs.1
/-- A field's slice of bools. -/
theorem fieldBools {t e : TypeId} {n : Nat} {v : Value} {y : DataW H × List MemPlace} (hu : P.underlying t = some (.slice e)) (he : P.underlying e = some .bool) (hc : P.cellsOf e = 1)
    (h : DataW.trod enc P W base (fun _ => true) held n t [v] = some y) : ∃ (a : Option Addr) (l : List Bool) (cap g o : Nat), v = .slice a l.length cap ∧ BRow W a g o l := by
  rcases DataW.trod_slice hu h with ⟨hcs, _⟩ | ⟨ad, len, cap, elems, rest, m, _, hcs, _, hb, hl, hm, hlen, hel, _⟩
  · simp only [List.cons.injEq, and_true] at hcs
    exact ⟨none, [], 0, 0, 0, hcs, fun h0 => absurd h0 (Nat.lt_irrefl 0), fun j hj => absurd hj (Nat.not_lt_zero _)⟩
  · simp only [List.cons.injEq, and_true] at hcs
    subst hcs
    have key : ∀ i, i < len → ∃ b : Bool, W.cell? (ad.add i) = some (.bool b) := by
      intro i hi
      have h1 := hel i hi
      rw [List.getElem?_eq_getElem (by omega), Option.bind_eq_some_iff] at h1
      obtain ⟨cs, h3, h4⟩ := h1
      obtain ⟨_, h5, h6⟩ := World.cells?_some h3
      obtain ⟨b, rfl, _⟩ := DataW.trod_bool he h4
      refine ⟨b, ?_⟩
      have h9 := h6 0 (by rw [hc]; exact Nat.one_pos)
      rw [hc, Nat.mul_one, Go.Proofs.YtmeoiennniknlaaW.PrintWords.add_add, Nat.add_zero] at h9
      exact h9
    obtain ⟨l, h1, h2⟩ := listOf len key
    subst h1
    obtain ⟨b0, o0, sp⟩ := ad
    refine ⟨some ⟨b0, o0, sp⟩, l, cap, b0, o0, rfl, fun h0 => ?_, fun j hj => ?_⟩
    · have h3 := h2 0 l[0] (List.getElem?_eq_getElem h0)
      have h4 : sp = none := by simpa [Addr.add] using World.cell?_spot h3
      have h5 := World.block_lt_of_cell? W _ h3
      subst h4
      exact ⟨rfl, by simpa [Addr.add] using h5⟩
    · have h3 := h2 j l[j] (List.getElem?_eq_getElem hj)
      have h0 := h2 0 l[0] (List.getElem?_eq_getElem (by omega))
      have h4 : sp = none := by simpa [Addr.add] using World.cell?_spot h0
      subst h4
      have e1 : (⟨b0, o0, none⟩ : Addr).add j = ⟨b0, o0 + j, none⟩ := by unfold Addr.add; split <;> simp_all
      rw [e1] at h3
      rw [h3, List.getD_eq_getElem?_getD, List.getElem?_eq_getElem hj]; rfl
theorem opCells {t te tb : TypeId} {g0 g1 f0 f1 f2 f3 f4 : Field} {n : Nat} {cs : List Value} {y : DataW H × List MemPlace} (hs : P.underlying t = some (.struct #[f0, f1, f2, f3, f4])) (hg : P.underlying f1.type = some (.struct #[g0, g1]))
    (o : f0.offset = 0 ∧ f1.offset = 1 ∧ f2.offset = 3 ∧ f3.offset = 4 ∧ f4.offset = 5 ∧ g0.offset = 0 ∧ g1.offset = 1) (c : P.cellsOf f0.type = 1 ∧ P.cellsOf f1.type = 2 ∧ P.cellsOf f2.type = 1 ∧ P.cellsOf f3.type = 1 ∧ P.cellsOf f4.type = 8 ∧ P.cellsOf g0.type = 1 ∧ P.cellsOf g1.type = 1)
    (e0 : P.underlying f0.type = some (.int .u8)) (e1 : P.underlying g0.type = some (.int .i64)) (e2 : P.underlying g1.type = some (.slice te)) (e3 : P.underlying te = some (.int .u64)) (c3 : P.cellsOf te = 1) (e4 : P.underlying f2.type = some (.slice tb)) (e5 : P.underlying tb = some .bool) (c5 : P.cellsOf tb = 1)
    (e6 : P.underlying f3.type = some (.int .i64)) (e7 : P.underlying f4.type = some (.array 8 te))
    (h : DataW.trod enc P W base (fun _ => true) held n t cs = some y) (hl : cs.length = 13) : ∃ x : OpV, (kO W).K W x cs := by
  obtain ⟨o0, o1, o2, o3, o4, p0, p1⟩ := o
  obtain ⟨q0, q1, q2, q3, q4, q5, q6⟩ := c
  obtain ⟨xs, m, _, _, _, hxl, hf⟩ := DataW.trod_struct hs h
  obtain ⟨v0, v1, v2, v3, v4, v5, v6, v7, v8, v9, v10, v11, v12, rfl⟩ : ∃ v0 v1 v2 v3 v4 v5 v6 v7 v8 v9 v10 v11 v12, cs = [v0, v1, v2, v3, v4, v5, v6, v7, v8, v9, v10, v11, v12] := by
    match cs, hl with
    | [v0, v1, v2, v3, v4, v5, v6, v7, v8, v9, v10, v11, v12], _ => exact ⟨v0, v1, v2, v3, v4, v5, v6, v7, v8, v9, v10, v11, v12, rfl⟩
  obtain ⟨y0, y1, y2, y3, y4, rfl⟩ : ∃ y0 y1 y2 y3 y4, xs = [y0, y1, y2, y3, y4] := by
    match xs, hxl with
    | [y0, y1, y2, y3, y4], _ => exact ⟨y0, y1, y2, y3, y4, rfl⟩
  have h0 := hf 0 f0 rfl
  have h1 := hf 1 f1 rfl
  have h2 := hf 2 f2 rfl
  have h3 := hf 3 f3 rfl
  have h4 := hf 4 f4 rfl
  rw [o0, q0] at h0
  rw [o1, q1] at h1
  rw [o2, q2] at h2
  rw [o3, q3] at h3
  rw [o4, q4] at h4
  simp only [List.drop_zero, List.drop_succ_cons, List.take_succ_cons, List.take_zero, List.getElem?_cons_zero, List.getElem?_cons_succ] at h0 h1 h2 h3 h4
  obtain ⟨kd, hkd, _, wkd⟩ := DataW.trod_int e0 h0
  obtain ⟨I, hI, _⟩ := DataW.trod_int e6 h3
  obtain ⟨z0, z1, m2, _, _, h5, h6⟩ := trod_struct2 hg h1
  rw [p0, q5] at h5
  rw [p1, q6] at h6
  simp only [List.drop_zero, List.drop_succ_cons, List.take_succ_cons, List.take_zero] at h5 h6
  obtain ⟨fk, hfk, _⟩ := DataW.trod_int e1 h5
  obtain ⟨A, l, cA, rfl, hA⟩ := fieldArg e2 e3 c3 h6
  obtain ⟨KA, keep, kc, g, oo, rfl, hK⟩ := fieldBools e4 e5 c5 h2
  obtain ⟨s, hs2, hsec⟩ := secCells e7 e3 c3 q4 h4
  have hb := bounds_u8 wkd
  simp only [List.cons.injEq, and_true] at hkd hI hfk
  subst hkd hI hfk
  refine ⟨⟨kd, fk, A, l, cA, KA, keep, kc, g, oo, I, s⟩, ?_, ⟨⟨hb.1, by show kd < 256; omega⟩, hA, hK, hsec⟩⟩
  show _ = [.int .u8 kd, .int .i64 fk, .slice A l.length cA, .slice KA keep.length kc, .int .i64 I] ++ nums .u64 s
  rw [← hs2]; rfl
end
namespace Log
theorem partB_nat {fr n : Int} {len : Nat} (h : partB fr n len = true) : ∃ a b : Nat, fr = (a : Int) ∧ n = (b : Int) ∧ 1 ≤ b ∧ a + b ≤ len := by
  have h2 := partB_true h
  exact ⟨fr.toNat, n.toNat, by omega, by omega, by omega, by omega⟩
theorem plays_law (W : World) (n : Int) (w0 : (Lit.int .i64 n).wf = true) (fr : Int) (w1 : (Lit.int .i64 fr).wf = true) (N : Int) (w2 : (Lit.int .i64 N).wf = true) (ep : Int) (w3 : (Lit.int .i64 ep).wf = true) {A : Option Addr} {c : Nat} (ops : List OpV) (y : ops.length * 136 ≤ 140737488351232) (hC : (kO W).C W A ops.length ops) :
    Calls Try.prog 15 #[.int .i64 n, .int .i64 fr, .int .i64 N, .int .i64 ep, .slice A ops.length c] W fun en w' => en = .returned (.bool true) ∧ Below W.heap.size W w' := by
  by_cases hn : n < 1 ∨ 40 < n
  · exact plays_n W n fr N ep _ hn
  · have h1 : 1 ≤ n := by omega
    have h2 : n ≤ 40 := by omega
    cases hp : partB fr N n.toNat with
    | false => exact plays_range W n fr N ep _ h1 h2 hp
    | true =>
      cases he : Frames.numB ep with
      | false => exact plays_epoch W n fr N ep _ h1 h2 hp he
      | true =>
        obtain ⟨a, b, rfl, rfl, hb, hfit⟩ := partB_nat hp
        obtain ⟨e1, e2⟩ := Frames.numB_true.1 he
        obtain ⟨nn, rfl⟩ : ∃ nn : Nat, n = (nn : Int) := ⟨n.toNat, by omega⟩
        obtain ⟨ee, rfl⟩ : ∃ ee : Nat, ep = (ee : Int) := ⟨ep.toNat, by omega⟩
        exact plays_good W nn a b ee A c ops (by omega) (by omega) hb (by simpa using hfit) (by omega) (by omega) hC
end Log
end Go.Proofs.Ytmeoiennniknlaa
