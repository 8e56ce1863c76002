/- The contract of (*disk.Disk).Write. -/
import Derived.Test.YtmeoiennniknlaaDkC
import Derived.IntWalk
namespace Go.Proofs.Ytmeoiennniknlaa.Disk
open Go.RowKit Go.Shelf Go.Proofs.YtmeoiennniknlaaW.PrintWords Go.Proofs.Ytmeoiennniknlaa.Lb Go.Proofs.Ytmeoiennniknlaa.Anchor
set_option linter.unusedVariables false
set_option linter.unusedSimpArgs false

@[reducible] def agg8 (s0 s1 s2 s3 s4 s5 s6 s7 : Int) : Value := .agg #[.int .u64 s0, .int .u64 s1, .int .u64 s2, .int .u64 s3, .int .u64 s4, .int .u64 s5, .int .u64 s6, .int .u64 s7]
def upd (M : Nat → Option (List Int)) (i : Nat) (s : List Int) : Nat → Option (List Int) := fun k => if k = i then some s else M k

theorem ownsMap_size {w : World} {P : Program} {k : TypeId} {R : Value → Option (DataW Value × List MemPlace)} {b n : Nat} {D : DataW Value} (h : w.ownsMap P k R b n D) : w.ownsMap P k R b (Maps.size D) D := by
  obtain ⟨es, ck, hb, F, hs, e⟩ := h
  refine ⟨es, ck, hb, F, ?_, e⟩
  subst e
  simp [Maps.size, length_sorted]

set_option maxRecDepth 100000 in
set_option maxHeartbeats 400000 in
theorem write_out (w : World) (p : Option Addr) (i : Int) (s0 s1 s2 s3 s4 s5 s6 s7 : Int) (h : ∀ W, Hid (Below w.heap.size w W) → Calls Try.prog 81 #[.pointer p, .int .i64 i] W fun en w' => en = .returned (.bool false) ∧ W = w') :
    Calls Try.prog 46 #[.pointer p, .int .i64 i, agg8 s0 s1 s2 s3 s4 s5 s6 s7] w fun en w' => en = .returned (.int .i64 3) ∧ Below w.heap.size w w' := by
  have H := Lib.hid h
  clear h
  have HB := Lib.hid ((Below.refl _ w).alloc (Nat.le_refl _) (.cells (nums .u64 [s0, s1, s2, s3, s4, s5, s6, s7]).toArray 59))
  go_enter Try.func46, Try.ntmps46
  go_wp2_with (go_at_call 81; (with_reducible refine (H.out _ ?_).mono ?_); rotate_right; rintro en w1 ⟨rfl, rfl⟩)
  any_goals exact HB
  go_ret
  exact ⟨rfl, HB.out⟩

set_option maxRecDepth 100000 in
set_option maxHeartbeats 1000000 in
theorem write_in {w : World} {d lb mb : Nat} {L : List (List Int)} {M : Nat → Option (List Int)} (h : Dsk w d lb mb L M) (i : Nat) (hi : i < L.length) (s0 s1 s2 s3 s4 s5 s6 s7 : Int) (hs : Sec [s0, s1, s2, s3, s4, s5, s6, s7]) :
    Calls Try.prog 46 #[.pointer (some ⟨d, 0, none⟩), .int .i64 (i : Int), agg8 s0 s1 s2 s3 s4 s5 s6 s7] w fun en w' => en = .returned (.int .i64 0) ∧ Dsk w' d lb mb L (upd M i [s0, s1, s2, s3, s4, s5, s6, s7]) ∧ Chg (fun k => k = d ∨ k = mb) w w' := by
  have H0 := Lib.hid h
  have H := Lib.hid (h.alloc (.cells #[.int .u64 s0, .int .u64 s1, .int .u64 s2, .int .u64 s3, .int .u64 s4, .int .u64 s5, .int .u64 s6, .int .u64 s7] 59))
  have HT : Hid (thB (i : Int) L.length = true) := Lib.hid (by simp [thB, hi])
  have HS := Lib.hid hs
  have Hi := Lib.hid hi
  obtain ⟨wr, sy, ho⟩ := h.obj
  obtain ⟨D, hD, hm⟩ := h.map
  have HD := Lib.hid hD
  have HM := Lib.hid hm
  have HO := Lib.hid ho
  have hsz := hD.size
  have hll := h.len.2
  have HL : Hid (Maps.size D < maxLen) := Lib.hid (by unfold maxLen; omega)
  have HK : Hid (keyOf Try.prog 3 (.int .i64 (i : Int)) = some (keyL i)) := Lib.hid (Maps.keyOf_int_mk Try.underlying3 (WalkArith.wf_i64 (by omega)))
  have q := ho.cell
  have hdm := h.nedm
  have HB := Lib.hid ((Below.refl _ w).alloc (Nat.le_refl _) (.cells (nums .u64 [s0, s1, s2, s3, s4, s5, s6, s7]).toArray 59))
  have hdl := h.ltd
  clear h hs hi ho hD hm hsz hll
  go_enter Try.func46, Try.ntmps46
  go_wp2_with (go_at_call 81; (with_reducible refine (there_at H HT).mono ?_); rintro en w1 ⟨rfl, rfl⟩)
  obtain ⟨V, hV⟩ : ∃ V, V = w.alloc (.cells #[.int .u64 s0, .int .u64 s1, .int .u64 s2, .int .u64 s3, .int .u64 s4, .int .u64 s5, .int .u64 s6, .int .u64 s7] 59) := ⟨_, rfl⟩
  have BV : Hid (Blk V w.heap.size (nums .u64 [s0, s1, s2, s3, s4, s5, s6, s7]) 59) := by rw [hV]; exact Lib.hid (Blk.new w (nums .u64 [s0, s1, s2, s3, s4, s5, s6, s7]) 59)
  have HOV : Hid (Blk V d [.slice (some ⟨lb, 0, none⟩) L.length L.length, .map (some mb), .int .i64 wr, .int .i64 sy] 118) := by rw [hV]; exact Lib.hid (HO.out.alloc _)
  have HMV : Hid (V.ownsMap Try.prog 3 secR mb (Maps.size D) D) := by rw [hV]; exact Lib.hid (HM.out.alloc _)
  have HHV : Hid (Dsk V d lb mb L M) := by rw [hV]; exact H
  have HBV : Hid (Below w.heap.size w V) := by rw [hV]; exact HB
  rw [← hV]
  clear hV H HB q
  have q0 := HOV.out.cell
  have q5 := BV.out.cell
  simp only [nums, List.map_cons, List.map_nil] at q5
  go_still_tail 6, (by kernel_rfl)
  go_wp2_with (at_mapUpdate; refine wpList_mapUpdate_own _ rfl _ _ _ 116 rfl 3 59 (Maps.int_keyed Try.underlying3) Try.underlying116 secR mb (Maps.size D) D rfl HMV.out.drew HL.out _ _ _ rfl rfl HK.out (.held (sv [s0, s1, s2, s3, s4, s5, s6, s7])) [] rfl ?_; intro w1 hown1 hgrow1; have HW1 := Lib.hid hown1; have HG1 := Lib.hid hgrow1; have hgq := ((Chg.grown hgrow1 (S := fun k => k = mb) (fun k e => (Option.some.inj e).symm)).blk HOV.out.drew hdm); have q1 := hgq.cell; have f1 := hgq.frozen; have HO1 := Lib.hid hgq; clear hown1 hgrow1 hgq)
  go_ret
  have HC1 : Chg (fun k => k = d ∨ k = mb) w w1 := ((Chg.of_below HBV.out).trans ((Chg.refl _ V).drew.trans (Chg.grown HG1.out (fun k e => Or.inr (Option.some.inj e).symm))))
  refine ⟨rfl, ⟨H0.out.len, H0.out.secs, fun k s hk => ?_, ⟨_, _, HO1.out.set 2 _⟩, (HC1.blk H0.out.las ?_).other ?_ _, D.put (keyL i) (.held (sv [s0, s1, s2, s3, s4, s5, s6, s7])), HD.out.put i Hi.out _, ?_⟩, HC1.trans (Chg.set (Or.inl rfl) _ _)⟩
  · unfold upd at hk
    split at hk
    · cases hk; exact HS.out
    · exact H0.out.mse k s hk
  · rintro (e | e)
    · exact H0.out.nedl e.symm
    · exact H0.out.nelm e
  · exact fun e => H0.out.nedl e.symm
  · exact (ownsMap_size HW1.out).setCell (Ne.symm H0.out.nedm) _
end Go.Proofs.Ytmeoiennniknlaa.Disk
