/- The walks of the Anchor laws, in the order of their rows. -/
import Derived.Test.YtmeoiennniknlaaAnM
import Derived.Test.YtmeoiennniknlaaRows3
namespace Go.Proofs.Ytmeoiennniknlaa.Anchor
open Go.RowKit Go.Shelf Go.Proofs.YtmeoiennniknlaaW.PrintWords Go.Proofs.Ytmeoiennniknlaa.Lb Go.Proofs.Ytmeoiennniknlaa.Sums
open Go.Proofs.Ytmeoiennniknlaa.Disk (Sec)

theorem sectors_law (W : World) (n e a w s0 s1 s2 s3 s4 s5 s6 s7 : Int) (hs : Sec [s0, s1, s2, s3, s4, s5, s6, s7]) :
    Calls Try.prog 11 #[agg4 n e a w, agg8 s0 s1 s2 s3 s4 s5 s6 s7] W fun en W' => en = .returned (.bool true) ∧ Below W.heap.size W W' :=
  let h := sec_u hs
  sectors_any W n e a w s0 s1 s2 s3 s4 s5 s6 s7 ⟨h.2.1, h.2.2.1, h.2.2.2.1, h.2.2.2.2.1⟩
theorem finds_law (W : World) (s0 s1 s2 s3 s4 s5 s6 s7 : Int) (hs : Sec [s0, s1, s2, s3, s4, s5, s6, s7]) (t0 t1 t2 t3 t4 t5 t6 t7 : Int) (ht : Sec [t0, t1, t2, t3, t4, t5, t6, t7]) :
    Calls Try.prog 12 #[agg8 s0 s1 s2 s3 s4 s5 s6 s7, agg8 t0 t1 t2 t3 t4 t5 t6 t7] W fun en W' => en = .returned (.bool true) ∧ Below W.heap.size W W' :=
  finds_walk W s0 s1 s2 s3 s4 s5 s6 s7 t0 t1 t2 t3 t4 t5 t6 t7 hs ht
theorem greater_law (W : World) (n e a w n' e' a' w' : Int) :
    Calls Try.prog 13 #[agg4 n e a w, agg4 n' e' a' w'] W fun en W' => en = .returned (.bool true) ∧ Below W.heap.size W W' := by
  cases hm : ancB n e a w with
  | false => exact greater_out W n e a w n' e' a' w' (Or.inl hm)
  | true =>
    cases hm' : ancB n' e' a' w' with
    | false => exact greater_out W n e a w n' e' a' w' (Or.inr hm')
    | true => exact greater_main W n e a w n' e' a' w' hm hm'
end Go.Proofs.Ytmeoiennniknlaa.Anchor
