/- A range over a function whose iterator tells, at its end, of the world that it leaves (what it has handed out lies in memory that it made). -/
import Derived.RangeFuncNested
import Derived.RangeFuncBound
import Derived.RangeFuncCalls
import Derived.RangeFuncLeaves
import Derived.RangeFuncFrom
import Derived.RangeFuncBox
namespace Go.Proofs.Ytmeoiennniknlaa.RangeW
open Go Go.RowKit
set_option linter.unusedVariables false

theorem tells {α : Type} {P : Program} {n : Nat} {g : Operand} {ps : Array Tmp} {assign body : Code} {Q : Exit → Act → World → Prop} {a : Act} {w : World} (h1 : 1 ≤ n) {gf : Nat} {lb : Array Value} (hg : a.eval g = .func (.func gf) #[] lb)
    (eg : ∀ args w, (callFunc gf args).run P w = .ok (.enter gf args) w) (encs : α → Array Value) (hps : ∀ x, (encs x).size = ps.size) (Kp : World → World → Prop)
    (hKt : ∀ {A B C : World}, Kp A B → Kp B C → Kp A C) (hKb : ∀ (W : World) (l : Nat) (o o' : Obj), w.heap.size ≤ l → W.heap[l]? = some o → o.isCells = false → Kp W (W.putObj l o'))
    (N : Nat) (I S : List α → World → Prop) (hI : OwnFrom w.heap.size I) (hS : OwnFrom w.heap.size S) (h0 : I [] w)
    (hiter : ∀ (l : Nat) (J : List α → World → Prop) (W : World), Below w.heap.size w W → (∀ xs A B, J xs A → A.grownBy B none → J xs B) →
      (∀ pre x W1, J pre W1 → pre.length < N → YieldAt Fence.wide (n - 1 - 1) P l (encs x) W1 fun e W' => e = .returned (.bool true) ∧ J (pre ++ [x]) W' ∧ Kp W1 W') → J [] W →
      CallsIn Fence.wide (n - 1) P gf (#[.func (.yield l) #[] #[]] ++ lb) W fun e W' => (∃ v, e = .returned v) ∧ ∃ xs, S xs W' ∧ J xs W')
    (Ax : α → Act → World → Prop) (hAx : ∀ x a', OwnFrom w.heap.size (fun (_ : Unit) W => Ax x a' W))
    (hassign : ∀ (l : Nat) (pre : List α) (x : α) (W : World) (K : Act → World → Prop), I pre W → (∀ a' W', KeepsOthers W W' → Kp W W' → I pre W' → Ax x a' W' → K a' W') →
      assign.wpIn (Fence.wide.inRound l) (n - 1 - 1) P (Exit.then K (fun _ _ _ => False)) { tmps := (ps.zip (encs x)).foldl (fun t (p, v) => t.setIfInBounds p v) a.tmps, defers := [] } W)
    (hbody : ∀ (l : Nat) (pre : List α) (x : α) (a' : Act) (W : World), I pre W → Ax x a' W → pre.length < N → body.wpIn (Fence.wide.inRound l) (n - 1 - 1) P (fun e _ W' => e = .normal ∧ KeepsOthers W W' ∧ Kp W W' ∧ I (pre ++ [x]) W') a' W)
    (hdone : ∀ (D : Nat) (xs : List α) (W : World), w.heap.size ≤ D → S xs W → I xs W → W.heap[D]? = some (.deferred (some [])) → Q .normal { a with defers := { target := .collected D, args := #[] } :: a.defers } W) :
    (Code.rangeFunc g ps assign body).wpIn Fence.wide n P Q a w := by
  refine wpIn_rangeFunc fun fn hfn => ?_
  -- the loop's record, by its state
  let R : LoopState → Option Code → Obj := fun st pe => .loop { state := st, pending := pe, fn, tmps := a.tmps, params := ps, assign, body, defers := w.heap.size }
  have hRc : ∀ st pe, (R st pe).isCells = false := fun _ _ => rfl
  obtain ⟨V, hV⟩ : ∃ V, (w.alloc (.deferred (some []))).alloc (R .ready none) = V := ⟨_, rfl⟩
  have hb : Below w.heap.size w V := by rw [← hV]; exact ((Below.refl _ w).alloc (Nat.le_refl _) _).alloc (by simp) _
  have hl0 : V.heap[w.heap.size + 1]? = some (R .ready none) := by
    rw [← hV]; have := World.alloc_heap_new (w.alloc (.deferred (some []))) (R .ready none); rwa [World.size_alloc] at this
  have hd0 : V.heap[w.heap.size]? = some (.deferred (some [])) := by
    rw [← hV]; exact (Below.heap_alloc _ _ _ (by simp)).trans (World.alloc_heap_new w _)
  have hi0 : I [] V := by rw [← hV]; exact hI.alloc _ (hI.alloc _ h0)
  refine ⟨w.heap.size + 1, [{ target := .collected w.heap.size, args := #[] }], V, { target := .fn (.func gf) lb, args := #[.func (.yield (w.heap.size + 1)) #[] #[]] }, V, gf, #[.func (.yield (w.heap.size + 1)) #[] #[]] ++ lb, V,
    by rw [← hV]; exact run_enterLoop_outer _ _ _ _ _, by simp only [resolve, hg]; simp [go_sem], fun f' _ => trivial, by simp [invoke, go_sem, eg], fun _ => h1, ?_⟩
  refine (hiter (w.heap.size + 1) (fun pre W => I pre W ∧ W.heap[w.heap.size + 1]? = some (R .ready none) ∧ W.heap[w.heap.size]? = some (.deferred (some []))) V hb ?_ ?_ ⟨hi0, hl0, hd0⟩).mono ?_
  · rintro xs A B ⟨hi, hl, hd⟩ hgr
    have hk : ∀ k o, A.heap[k]? = some o → B.heap[k]? = some o := fun k o h => (hgr.block k (Array.getElem?_eq_some_iff.1 h).1 (by simp)).trans h
    exact ⟨hI xs A B none hi hgr (fun r h => by cases h), hk _ _ hl, hk _ _ hd⟩
  · rintro pre x W ⟨hi, hl, hd⟩ hlen
    refine ⟨fn, _, assign, body, run_yield (P := P) (args := encs x) hl (hps x), roundIn_of_wpIn hfn (hassign _ pre x W _ hi ?_)⟩
    intro a' Wa hka hpa hia hax
    have hla := hka.same _ _ hl (hRc _ _)
    have hda := hka.same _ _ hd rfl
    have hlt : w.heap.size + 1 < Wa.heap.size := (Array.getElem?_eq_some_iff.1 hla).1
    refine ⟨_, run_beginRound hla rfl, ?_⟩
    have hlb : (Wa.putObj (w.heap.size + 1) (R .busy none)).heap[w.heap.size + 1]? = some (R .busy none) := World.putObj_heap_same hlt
    have hdb : (Wa.putObj (w.heap.size + 1) (R .busy none)).heap[w.heap.size]? = some (.deferred (some [])) := (World.putObj_heap_other (by omega)).trans hda
    have hpb : Kp Wa (Wa.putObj (w.heap.size + 1) (R .busy none)) := hKb _ _ _ _ (by omega) hla (hRc _ _)
    refine wpIn_mono (hbody _ pre x a' (Wa.putObj (w.heap.size + 1) (R .busy none)) (hI.putObj _ hia (by omega) hla (hRc _ _)) ((hAx x a').putObj (s := ()) _ hax (by omega) hla (hRc _ _)) hlen) ?_
    rintro e a3 W3 ⟨rfl, hk3, hp3, hi3⟩
    have hl3 := hk3.same _ _ hlb (hRc _ _)
    have hd3 := hk3.same _ _ hdb rfl
    have hlt3 : w.heap.size + 1 < W3.heap.size := (Array.getElem?_eq_some_iff.1 hl3).1
    exact ⟨_, _, run_endRound (P := P) none hl3, rfl, ⟨hI.putObj _ hi3 (by omega) hl3 (hRc _ _), World.putObj_heap_same hlt3, (World.putObj_heap_other (by omega)).trans hd3⟩,
      hKt hpa (hKt (hKt hpb hp3) (hKb _ _ _ _ (by omega) hl3 (hRc _ _)))⟩
  · rintro e W2 ⟨⟨v, rfl⟩, xs, hs, hi, hl, hd⟩
    exact ⟨none, _, run_endLoop (P := P) hl (by simp), hdone _ xs _ (Nat.le_refl _) (hS.putObj _ hs (by omega) hl (hRc _ _)) (hI.putObj _ hi (by omega) hl (hRc _ _)) ((World.putObj_heap_other (by omega)).trans hd)⟩
end Go.Proofs.Ytmeoiennniknlaa.RangeW
