/- A drawn region taken by hand: an operation that its guard passes over; one operation that comes up alone. -/
import Derived.Deep.RegionHeld3
namespace Go.Proofs.Ytmeoiennniknlaa.Held
open Go
section
variable {P : Program} {ops : Array Oper} {Q : Exit → Act → World → Prop} {md : Region.Mode} {S : World → Prop}

/-- An operation that is passed over is taken first. -/
theorem take_pass {i : Nat} (d : Option Tmp) {fuel : Nat} {listed : Array Bool} {a : Act} {w : World} (hd : (ops[i]?).map (·.dst) = some d)
    (hw : (ops[i]?).map (fun o => Region.wanted o (yielded ops a.tmps)) = some false)
    (hs : Region.noSelect ops = true) (hf : Region.free md ops listed i = true) (hr : (Region.ready md ops listed).contains i = true)
    (hQ : ∀ c a w, Q (.panic c) (a.put d undef) w → Q (.panic c) a w) (hS : S w)
    (h : wpAnyH P md ops Q S fuel (listed.setIfInBounds i true) (a.put d undef) w) : wpAnyH P md ops Q S (fuel + 1) listed a w := by
  cases ho : ops[i]? with
  | none => rw [ho] at hd; cases hd
  | some o =>
    rw [ho] at hd hw
    simp only [Option.map_some, Option.some.injEq] at hd hw
    subst hd
    exact wpAnyH_take (v := undef) ho hs hf hr hQ (Or.inr ⟨hw, rfl⟩) hS h

/-- An operation that yields wherever S holds is taken first; its place is named. -/
theorem take_val {i : Nat} (d : Option Tmp) (v : Value) {fuel : Nat} {listed : Array Bool} {a : Act} {w : World} (hd : (ops[i]?).map (·.dst) = some d)
    (hw : (ops[i]?).map (fun o => Region.wanted o (yielded ops a.tmps)) = some true)
    (hs : Region.noSelect ops = true) (hf : Region.free md ops listed i = true) (hr : (Region.ready md ops listed).contains i = true)
    (hQ : ∀ c a w, Q (.panic c) (a.put d v) w → Q (.panic c) a w)
    (hy : ∀ w, S w → (ops[i]?).map (fun o => (execOp a.eval o).run P w) = some (.ok (.value v) w)) (hS : S w)
    (h : wpAnyH P md ops Q S fuel (listed.setIfInBounds i true) (a.put d v) w) : wpAnyH P md ops Q S (fuel + 1) listed a w := by
  cases ho : ops[i]? with
  | none => rw [ho] at hd; cases hd
  | some o =>
    simp only [ho] at hd hw hy
    simp only [Option.map_some, Option.some.injEq] at hd hw hy
    subst hd
    exact wpAnyH_take (v := v) ho hs hf hr hQ (Or.inl ⟨hw, hy⟩) hS h

/-- One operation comes up alone. -/
theorem one_ready {i : Nat} {fuel : Nat} {listed : Array Bool} {a : Act} {w : World} (hr : Region.ready md ops listed = [i])
    (h : AllReadyH P md ops Q S fuel listed a w [i]) : wpAnyH P md ops Q S (fuel + 1) listed a w := wpAnyH_ready hr (by simp) h
end
end Go.Proofs.Ytmeoiennniknlaa.Held
