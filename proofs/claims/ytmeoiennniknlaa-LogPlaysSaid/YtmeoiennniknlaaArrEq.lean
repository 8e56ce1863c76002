/- Two arrays of whole numbers, compared. -/
import Derived.Test.YtmeoiennniknlaaWWords
import Derived.Test.YtmeoiennniknlaaProg
import Derived.ChangeKeysEq
namespace Go.Proofs.Ytmeoiennniknlaa.ArrEq
open Go Go.RowKit Go.Proofs.YtmeoiennniknlaaW.PrintWords
set_option linter.unusedVariables false

theorem items {P : Program} {e : TypeId} {k : IntKind} (he : P.underlying e = some (.int k)) (hp : P.plainKey e = true) (d : Nat) (xs ys : List Int) (w : World) : ∀ (is : List Nat), (∀ i ∈ is, i < xs.length ∧ i < ys.length) →
    (Op.eqItems (d + 1) e 1 (nums k xs).toArray (nums k ys).toArray is).run P w = .ok (decide (∀ i ∈ is, xs[i]? = ys[i]?)) w
  | [], _ => by simp [Op.eqItems]
  | i :: is, h => by
    obtain ⟨h1, h2⟩ := h i List.mem_cons_self
    have ih := items he hp d xs ys w is (fun j hj => h j (List.mem_cons_of_mem _ hj))
    have px : (part e (nums k xs).toArray (i * 1)).run P w = .ok (.int k xs[i]) w := run_part_plain w hp (by simp [nums, h1])
    have py : (part e (nums k ys).toArray (i * 1)).run P w = .ok (.int k ys[i]) w := run_part_plain w hp (by simp [nums, h2])
    simp only [Op.eqItems, Sem.run_bind, px, py, Result.andThen_ok, run_equalIn_int w d e k k _ _ he]
    by_cases hx : xs[i] = ys[i]
    · have hb : (xs[i] == ys[i]) = true := by simpa using hx
      simp only [hb, Bool.not_true, if_neg Bool.false_ne_true, ih]
      congr 1
      rw [decide_eq_decide]
      constructor
      · intro h3 j hj
        rcases List.mem_cons.1 hj with rfl | hj
        · rw [List.getElem?_eq_getElem h1, List.getElem?_eq_getElem h2, hx]
        · exact h3 j hj
      · intro h3 j hj
        exact h3 j (List.mem_cons_of_mem _ hj)
    · have hb : (xs[i] == ys[i]) = false := by simpa using hx
      simp only [hb, Bool.not_false, if_true, Sem.run_pure]
      congr 1
      symm
      rw [decide_eq_false_iff_not]
      intro h3
      have := h3 i List.mem_cons_self
      rw [List.getElem?_eq_getElem h1, List.getElem?_eq_getElem h2] at this
      exact hx (by simpa using this)

theorem same_iff (s t : List Int) (hs : s.length = 8) (ht : t.length = 8) : (∀ i ∈ List.range 8, s[i]? = t[i]?) ↔ s = t := by
  constructor
  · intro h2
    apply List.ext_getElem?
    intro j
    by_cases hj : j < 8
    · exact h2 j (List.mem_range.2 hj)
    · rw [List.getElem?_eq_none (by omega), List.getElem?_eq_none (by omega)]
  · rintro rfl j _
    rfl
theorem sector_eq (s t : List Int) (hs : s.length = 8) (ht : t.length = 8) (w : World) :
    (Op.equalIn 10000 59 (.agg (nums .u64 s).toArray) (.agg (nums .u64 t).toArray)).run Try.prog w = .ok (decide (s = t)) w := by
  obtain ⟨i, hi, _⟩ := Option.map_eq_some_iff.1 (show (Try.prog.info? 30).map (·.size) = some 1 by kernel_rfl)
  have h := run_equalIn_array w 9999 (nums .u64 s).toArray (nums .u64 t).toArray Try.underlying59 hi
  have hc : Try.prog.cellsOf 30 = 1 := by kernel_rfl
  have h2 := items Try.underlying30 (by kernel_rfl) 9998 s t w (List.range 8) (by
    intro j hj
    rw [List.mem_range] at hj
    omega)
  rw [hc] at h
  exact h.trans (h2.trans (by rw [decide_eq_decide.2 (same_iff s t hs ht)]))
end Go.Proofs.Ytmeoiennniknlaa.ArrEq
