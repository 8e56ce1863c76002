/- The contracts of package sums: Bytes, Of, Mark, Open, Fits. -/
import Derived.Test.YtmeoiennniknlaaSumsFold
namespace Go.Proofs.Ytmeoiennniknlaa.Sums
open Go.RowKit Go.Shelf Go.Proofs.YtmeoiennniknlaaW.PrintWords Go.Proofs.Ytmeoiennniknlaa.Lb

theorem bytes_stops (w : World) (A : Option Addr) (c : Nat) (xs : List Byt) (hreach : xs.length ≤ 140737488351232) (hC : (Kd.int .u8).C w A xs.length (ib xs)) (t : Nat) :
    SeqStopsK Fence.wide 2 Try.prog 70 #[.pointer (some ⟨w.heap.size, 0, none⟩)] (fun x : Byt => #[.int .u8 ((x.val : Nat) : Int)]) (Below (w.alloc (.cells #[.slice A xs.length c] t)).heap.size) (fun ys => ys = xs) (fun _ => True) xs.length (w.alloc (.cells #[.slice A xs.length c] t)) := by
  intro l J Jx W hW _ _ hY h0
  have hB0 : Below w.heap.size w (w.alloc (.cells #[.slice A xs.length c] t)) := (Below.refl _ w).alloc (Nat.le_refl _) _
  have hcell : W.cell? ⟨w.heap.size, 0, none⟩ = some (.slice A xs.length c) := by
    rw [hW.cell (p := ⟨w.heap.size, 0, none⟩) (by simp)]
    simp [go_sem]
  refine (bytes1_in 2 (by omega) l w.heap.size (w.alloc (.cells #[.slice A xs.length c] t)) A c xs hreach (Kd.C_below hC hB0) J Jx hY W hW hcell h0).mono ?_
  rintro e W' ⟨hv, h⟩
  exact ⟨hv, h.imp id (fun ⟨p, _, hp⟩ => ⟨p, trivial, hp⟩)⟩

theorem of_stops (w : World) (A : Option Addr) (c : Nat) (ws : List Nat) (hreach : ws.length * 8 ≤ 140737488351232) (hC : (Kd.int .u64).C w A ws.length (il ws)) (t : Nat) :
    SeqStopsK Fence.wide 2 Try.prog 71 #[.pointer (some ⟨w.heap.size, 0, none⟩)] (fun x : Byt => #[.int .u8 ((x.val : Nat) : Int)]) (Below (w.alloc (.cells #[.slice A ws.length c] t)).heap.size) (fun ys => ys = wbs ws) (fun _ => True) (8 * ws.length) (w.alloc (.cells #[.slice A ws.length c] t)) := by
  intro l J Jx W hW _ _ hY h0
  have hB0 : Below w.heap.size w (w.alloc (.cells #[.slice A ws.length c] t)) := (Below.refl _ w).alloc (Nat.le_refl _) _
  have hcell : W.cell? ⟨w.heap.size, 0, none⟩ = some (.slice A ws.length c) := by
    rw [hW.cell (p := ⟨w.heap.size, 0, none⟩) (by simp)]
    simp [go_sem]
  refine (of1_in 2 (by omega) l w.heap.size (w.alloc (.cells #[.slice A ws.length c] t)) A c ws hreach (Kd.C_below hC hB0) J Jx hY W hW hcell h0).mono ?_
  rintro e W' ⟨hv, h⟩
  exact ⟨hv, h.imp id (fun ⟨p, _, hp⟩ => ⟨p, trivial, hp⟩)⟩

set_option maxRecDepth 100000 in
set_option maxHeartbeats 400000 in
theorem bytes_any (w : World) (A : Option Addr) (c : Nat) (xs : List Byt) (hreach : xs.length ≤ 140737488351232) (hC : (Kd.int .u8).C w A xs.length (ib xs)) :
    Calls Try.prog 17 #[.slice A xs.length c] w fun e w' => e = .returned (.int .u32 ((bsum (vals xs) : Nat) : Int)) ∧ Below w.heap.size w w' := by
  have hs := bytes_stops w A c xs hreach hC 22
  have HS := Lib.hid hs
  clear hs hC
  go_enter Try.func17, Try.ntmps17
  go_wp2_with (go_at_call 69; refine (callsIn_wide.1 (fold_in 3 (by omega) 70 _ (enters_of Try.func70 (by kernel_rfl) rfl) xs _ _ HS.out)).mono ?_; rintro e w' ⟨rfl, hb⟩)
  go_ret
  exact ⟨rfl, ((Below.refl _ w).alloc (Nat.le_refl _) _).trans (hb.mono (by simp))⟩

set_option maxRecDepth 100000 in
set_option maxHeartbeats 400000 in
theorem of_any' (w : World) (A : Option Addr) (c : Nat) (ws : List Nat) (hreach : ws.length * 8 ≤ 140737488351232) (hC : (Kd.int .u64).C w A ws.length (il ws)) :
    Calls Try.prog 19 #[.slice A ws.length c] w fun e w' => e = .returned (.int .u32 ((bsum (vals (wbs ws)) : Nat) : Int)) ∧ Below w.heap.size w w' := by
  have hs := of_stops w A c ws hreach hC 23
  have HS := Lib.hid hs
  clear hs hC
  go_enter Try.func19, Try.ntmps19
  go_wp2_with (go_at_call 69; refine (callsIn_wide.1 (fold_in 3 (by omega) 71 _ (enters_of Try.func71 (by kernel_rfl) rfl) (wbs ws) _ _ HS.out)).mono ?_; rintro e w' ⟨rfl, hb⟩)
  go_ret
  exact ⟨rfl, ((Below.refl _ w).alloc (Nat.le_refl _) _).trans (hb.mono (by simp))⟩
theorem of_any (w : World) (A : Option Addr) (c : Nat) (ws : List Nat) (hreach : ws.length * 8 ≤ 140737488351232) (hC : (Kd.int .u64).C w A ws.length (il ws)) :
    Calls Try.prog 19 #[.slice A ws.length c] w fun e w' => e = .returned (.int .u32 ((wsum ws : Nat) : Int)) ∧ Below w.heap.size w w' := by
  have h := of_any' w A c ws hreach hC
  rw [show bsum (vals (wbs ws)) = wsum ws by unfold vals wsum; rw [wbs_vals]] at h
  exact h
end Go.Proofs.Ytmeoiennniknlaa.Sums
