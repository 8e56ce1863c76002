/- The row of the statement FramesMore: for every input the call returns true, and what was there reads as it did. No condition. -/
import Derived.Test.YtmeoiennniknlaaRows
import Derived.Test.YtmeoiennniknlaaFrMore
import Derived.Test.YtmeoiennniknlaaRows2
import Derived.Test.YtmeoiennniknlaaWSized
import Derived.WalkKit
import Derived.ProofKit
import Derived.OpenShut
import Derived.ShutString
import Derived.ChangeOld
import Derived.Below
import Derived.SizedLaws
import Derived.Lib.SmallJoins
namespace Go.Proofs.Ytmeoiennniknlaa.RowFramesMore
open Go.ChangeShapes Go.WideShapes Go.ChangeAt Go.RowKit Go.Proofs.YtmeoiennniknlaaW Go.Proofs.Ytmeoiennniknlaa
open Go.ChangeMaps (open_string shut_string)
set_option linter.unusedVariables false
set_option linter.unusedSimpArgs false
theorem own : ownKnob Try.prog.godebug = none := by kernel_rfl
theorem laidOut : laidOutB Try.prog = true := by kernel_rfl
set_option maxRecDepth 100000 in
theorem lifted (os : Os) (started : os.Started) (H : Type) (enc : TypeId × Value → H) :
    ReturnsInHanded {} Try.checked os 10 .any (Rows.framesMoreSpec.pre6 enc Try.prog Try.f10 Rows.framesMoreRow.domain false) (Rows.framesMoreSpec.post enc Try.prog Try.f10 false true false false) := by
  refine returnsInHanded_of_change_sized (C := Try.checked) own started (by kernel_rfl) Try.func10
    (ChangeSpec.witness6 (enc := enc) (C := Try.checked) false ⟨#[], #[.int .u16 0, .slice none 0 0, .slice none 0 0], []⟩ 8 (by kernel_rfl) (by kernel_rfl) (by kernel_rfl) (by kernel_rfl)) ?_
  intro W base args ds gs before hval0 hW hcnd hsz0 _
  have hsz : (DataW.weightsEach Try.prog (Try.f10.params.toList ++ Rows.framesMoreSpec.plain.varTypes Try.prog) (ds ++ gs)).all (· ≤ reachBytes) = true := hsz0
  have hval : ∀ (j : Nat) t v, Try.f10.params[j]? = some t → args[j]? = some v → Value.okWide Try.prog W .any base t v := hval0
  have hW' := hW
  obtain ⟨p, q, hA0, hV, rfl, hfz, hnd⟩ := hW
  have hA : DataW.TrodAll enc Try.prog W 0 (fun _ => true) true Try.f10.params.toList args.toList ds p := hA0
  rw [Try.params10] at hA hval hsz
  obtain ⟨v0, vs0, d0, ds0, p0, q0, hargs, rfl, rfl, h0, r0⟩ := trodAll_cons hA
  obtain ⟨v1, vs1, d1, ds1, p1, q1, rfl, rfl, rfl, h1, r1⟩ := trodAll_cons r0
  obtain ⟨v2, vs2, d2, ds2, p2, q2, rfl, rfl, rfl, h2, r2⟩ := trodAll_cons r1
  obtain ⟨rfl, rfl, rfl⟩ := trodAll_nil r2
  obtain rfl : args = #[v0, v1, v2] := by cases args; simp_all
  obtain ⟨rfl, rfl⟩ := trodVars_none hV
  obtain ⟨a0, rfl, rfl, rfl, w0⟩ := open_int Try.underlying29 (hval 0 29 v0 rfl rfl) h0
  obtain ⟨a1, len1, cap1, rfl⟩ := okWide_slice Try.underlying42 (hval 1 42 v1 rfl rfl)
  have k1 := h1
  have lt1 : ∀ x ∈ p1, x.block < W.heap.size := by obtain ⟨m, hm⟩ := k1; exact DataW.trod_lt m _ _ _ hm
  have y1 : len1 * 32 ≤ 140737488351232 := sized_rows hsz (j := 1) (t := 42) rfl rfl Try.underlying42 (by kernel_rfl) h1
  obtain ⟨l1, rfl, hr1, hm1, hc1, hw1⟩ := rowsOf Frames.kF (fun x => Frames.WS x.f1 ∧ x.f1.length ≤ maxLen) Try.underlying42 (by kernel_rfl) (fun n cs y h hl => frameCells Try.underlying40 rfl rfl (by kernel_rfl) (by kernel_rfl) Try.underlying3 Try.underlying23 Try.underlying30 (by kernel_rfl) h hl) h1
  obtain ⟨a2, len2, cap2, rfl⟩ := okWide_slice Try.underlying42 (hval 2 42 v2 rfl rfl)
  have k2 := h2
  have lt2 : ∀ x ∈ p2, x.block < W.heap.size := by obtain ⟨m, hm⟩ := k2; exact DataW.trod_lt m _ _ _ hm
  have y2 : len2 * 32 ≤ 140737488351232 := sized_rows hsz (j := 2) (t := 42) rfl rfl Try.underlying42 (by kernel_rfl) h2
  obtain ⟨l2, rfl, hr2, hm2, hc2, hw2⟩ := rowsOf Frames.kF (fun x => Frames.WS x.f1 ∧ x.f1.length ≤ maxLen) Try.underlying42 (by kernel_rfl) (fun n cs y h hl => frameCells Try.underlying40 rfl rfl (by kernel_rfl) (by kernel_rfl) Try.underlying3 Try.underlying23 Try.underlying30 (by kernel_rfl) h hl) h2
  clear hA0 hval0 hsz0 hsz
  refine (Frames.framesMore_law W a0 w0 l1 y1 hw1 hc1 hr1 l2 y2 hw2 hc2 hr2).mono fun e W' ⟨he, bel⟩ => ?_
  subst he
  exact ⟨_, rfl, _, _, _, [], _, [], hW', trodAll_mk1 (shut_bool Try.underlying4 _), (trodAll_cons_mk (shut_int Try.underlying29 w0) (trodAll_cons_mk (Below.trod laidOut (by kernel_rfl) (of_decide_eq_true (by kernel_rfl)) k1 bel lt1) (trodAll_cons_mk (Below.trod laidOut (by kernel_rfl) (of_decide_eq_true (by kernel_rfl)) k2 bel lt2) trodAll_mk0))), rfl, bel.frame _, fun h => by cases h⟩
theorem over : Rows.framesMoreRow.holds Try.pinned (OpenSpec.ofChange Rows.framesMoreSpec) :=
  OpenClaim.holds_of_wide 10 Try.f10 rfl rfl rfl rfl rfl rfl rfl ⟨rfl, rfl, rfl, rfl, rfl⟩ rfl rfl rfl rfl rfl (by kernel_rfl) Try.func10 (by kernel_rfl)
    (of_decide_eq_true (by kernel_rfl)) (by unfold Func.isWrapper; first | (rw [if_pos (by decide +kernel)]; kernel_rfl) | (rw [if_neg (by decide +kernel)]; exact ⟨rfl, rfl⟩))
    (fun os started H enc _ => lifted os started H enc)
end Go.Proofs.Ytmeoiennniknlaa.RowFramesMore
namespace Go.Proofs.Ytmeoiennniknlaa
/-- The row, under a short name, for the claim. -/
theorem framesMore_holds : Rows.FramesMoreSaid := RowFramesMore.over
#print axioms framesMore_holds
end Go.Proofs.Ytmeoiennniknlaa
