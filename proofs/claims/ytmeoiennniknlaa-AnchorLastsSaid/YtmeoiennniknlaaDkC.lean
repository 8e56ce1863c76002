/- The device as a whole; disk.Len, there, Write. -/
import Derived.Test.YtmeoiennniknlaaDkB
namespace Go.Proofs.Ytmeoiennniknlaa.Disk
open Go.RowKit Go.Shelf Go.Proofs.YtmeoiennniknlaaW.PrintWords Go.Proofs.Ytmeoiennniknlaa.Lb Go.Proofs.Ytmeoiennniknlaa.Anchor
set_option linter.unusedVariables false
set_option linter.unusedSimpArgs false

/-- A device at block d: sectors L that last (block lb), M of what was written since (map mb). -/
structure Dsk (w : World) (d lb mb : Nat) (L : List (List Int)) (M : Nat → Option (List Int)) : Prop where
  len : 1 ≤ L.length ∧ L.length ≤ 4096
  secs : ∀ s ∈ L, Sec s
  mse : ∀ i s, M i = some s → Sec s
  obj : ∃ wr sy, Blk w d [.slice (some ⟨lb, 0, none⟩) L.length L.length, .map (some mb), .int .i64 wr, .int .i64 sy] 118
  las : Blk w lb (secC L) 59
  map : ∃ D, MapIs D L.length M ∧ w.ownsMap Try.prog 3 secR mb (Maps.size D) D
section
variable {w w' : World} {d lb mb : Nat} {L : List (List Int)} {M : Nat → Option (List Int)} {S : Nat → Prop}
theorem Dsk.ltd (h : Dsk w d lb mb L M) : d < w.heap.size := by obtain ⟨_, _, hb⟩ := h.obj; exact hb.lt
theorem Dsk.ltl (h : Dsk w d lb mb L M) : lb < w.heap.size := h.las.lt
theorem Dsk.ltm (h : Dsk w d lb mb L M) : mb < w.heap.size := by obtain ⟨_, _, hm⟩ := h.map; exact hm.lt
theorem Dsk.nedl (h : Dsk w d lb mb L M) : d ≠ lb := by
  rintro rfl
  obtain ⟨_, _, hb⟩ := h.obj
  have h2 := (show w.heap[d]? = _ from h.las).symm.trans (show w.heap[d]? = _ from hb)
  simp only [Option.some.injEq, Obj.cells.injEq] at h2
  exact absurd h2.2.1 (by decide)
theorem Dsk.nedm (h : Dsk w d lb mb L M) : d ≠ mb := by
  rintro rfl
  obtain ⟨_, _, hb⟩ := h.obj
  obtain ⟨_, _, es, ck, hm, _⟩ := h.map
  rw [show w.heap[d]? = _ from hb] at hm
  cases hm
theorem Dsk.nelm (h : Dsk w d lb mb L M) : lb ≠ mb := by
  rintro rfl
  obtain ⟨_, _, es, ck, hm, _⟩ := h.map
  rw [show w.heap[lb]? = _ from h.las] at hm
  cases hm
theorem Dsk.kept (h : Dsk w d lb mb L M) (hc : Chg S w w') (h1 : ¬ S d) (h2 : ¬ S lb) (h3 : ¬ S mb) : Dsk w' d lb mb L M := by
  obtain ⟨wr, sy, ho⟩ := h.obj
  obtain ⟨D, hD, hm⟩ := h.map
  refine ⟨h.len, h.secs, h.mse, ⟨wr, sy, hc.blk ho h1⟩, hc.blk h.las h2, ⟨D, hD, ?_⟩⟩
  have hlt := hm.lt
  obtain ⟨es, ck, hb, F, hs, e⟩ := hm
  exact ⟨es, ck, (hc.block mb hlt h3).trans hb, F, hs, e⟩
theorem Dsk.below (h : Dsk w d lb mb L M) (hb : Below w.heap.size w w') : Dsk w' d lb mb L M := h.kept (S := fun _ => False) (Chg.of_below hb) id id id
theorem Dsk.alloc (h : Dsk w d lb mb L M) (o : Obj) : Dsk (w.alloc o) d lb mb L M := h.below ((Below.refl _ w).alloc (Nat.le_refl _) o)
end
/-- Is there a sector? -/
def thB (i : Int) (n : Nat) : Bool := decide (0 ≤ i ∧ i < (n : Int))

set_option maxRecDepth 100000 in
set_option maxHeartbeats 400000 in
theorem len_any {w : World} {d lb mb : Nat} {L : List (List Int)} {M : Nat → Option (List Int)} (h : Dsk w d lb mb L M) :
    Calls Try.prog 90 #[.pointer (some ⟨d, 0, none⟩)] w fun en w' => en = .returned (.int .i64 (L.length : Int)) ∧ w = w' := by
  obtain ⟨wr, sy, ho⟩ := h.obj
  have q := ho.cell
  clear ho h
  go_enter Try.func90, Try.ntmps90
  go_wp2
  go_ret
  exact ⟨rfl, rfl⟩
set_option maxRecDepth 100000 in
set_option maxHeartbeats 400000 in
theorem len_nil (w : World) :
    Calls Try.prog 90 #[.pointer none] w fun en w' => en = .returned (.int .i64 0) ∧ w = w' := by
  go_enter Try.func90, Try.ntmps90
  go_wp2
  go_ret
  exact ⟨rfl, rfl⟩
theorem len_at {w : World} {d lb mb n : Nat} {L : List (List Int)} {M : Nat → Option (List Int)} (h : Hid (Dsk w d lb mb L M)) (hn : Hid (L.length = n)) :
    Calls Try.prog 90 #[.pointer (some ⟨d, 0, none⟩)] w fun en w' => en = .returned (.int .i64 (n : Int)) ∧ w = w' := by
  have e := hn.out
  subst e
  exact len_any h.out
set_option maxRecDepth 100000 in
set_option maxHeartbeats 400000 in
theorem there_any {w : World} {d lb mb : Nat} {L : List (List Int)} {M : Nat → Option (List Int)} (h : Dsk w d lb mb L M) (i : Int) :
    Calls Try.prog 81 #[.pointer (some ⟨d, 0, none⟩), .int .i64 i] w fun en w' => en = .returned (.bool (thB i L.length)) ∧ w = w' := by
  have H := Lib.hid h
  obtain ⟨n, hn⟩ : ∃ n, L.length = n := ⟨_, rfl⟩
  have HN := Lib.hid hn
  rw [hn]
  unfold thB
  clear h hn
  by_cases h0 : 0 ≤ i
  · by_cases h1 : i < (n : Int)
    all_goals
      go_enter Try.func81, Try.ntmps81
      go_wp2_with (go_at_call 90; (with_reducible refine (len_at H HN).mono ?_); rintro en w1 ⟨rfl, rfl⟩)
      go_ret
      exact ⟨by simp [h0, h1], rfl⟩
  · go_enter Try.func81, Try.ntmps81
    go_wp2
    go_ret
    exact ⟨by simp; omega, rfl⟩
set_option maxRecDepth 100000 in
set_option maxHeartbeats 400000 in
theorem there_nil (w : World) (i : Int) :
    Calls Try.prog 81 #[.pointer none, .int .i64 i] w fun en w' => en = .returned (.bool false) ∧ w = w' := by
  by_cases h0 : 0 ≤ i
  · have h1 : ¬ i < 0 := by omega
    go_enter Try.func81, Try.ntmps81
    go_wp2_with (go_at_call 90; (with_reducible refine (len_nil _).mono ?_); rintro en w1 ⟨rfl, rfl⟩)
    go_ret
    exact ⟨by first | (simp; done) | (simp; omega), rfl⟩
  · go_enter Try.func81, Try.ntmps81
    go_wp2
    go_ret
    exact ⟨by first | (simp; done) | (simp; omega), rfl⟩
theorem there_at {w : World} {d lb mb : Nat} {L : List (List Int)} {M : Nat → Option (List Int)} {i : Int} {b : Bool} (h : Hid (Dsk w d lb mb L M)) (hb : Hid (thB i L.length = b)) :
    Calls Try.prog 81 #[.pointer (some ⟨d, 0, none⟩), .int .i64 i] w fun en w' => en = .returned (.bool b) ∧ w = w' := by
  have h2 := there_any h.out i
  rw [hb.out] at h2
  exact h2
end Go.Proofs.Ytmeoiennniknlaa.Disk
