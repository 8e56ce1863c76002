/- The walks of the sums: what the code of package sums computes. -/
import Derived.Test.YtmeoiennniknlaaProg
import Derived.Test.YtmeoiennniknlaaWWords
import Derived.Test.YtmeoiennniknlaaSumsPure
import Derived.WalkKit
import Derived.WalkSpells
import Derived.WalkLawsBesides
import Derived.Lib.Hide
namespace Go.Proofs.Ytmeoiennniknlaa.Sums
open Go.RowKit Go.Proofs.YtmeoiennniknlaaW.PrintWords

theorem u32_step (m : Nat) (hm : m < 4294967296) :
    bits .xor .u32 ((m : Int) / 2) (2197175160 * bits .and .u32 (m : Int) 1 % 4294967296) = ((stp m : Nat) : Int) := by
  have ha : bits .and .u32 (m : Int) 1 = (m : Int) % 2 := by
    have := u32_and_nat m 1 hm (by omega)
    rw [Nat.and_one_is_mod] at this
    simpa using this
  rw [ha]
  unfold stp
  rcases Nat.mod_two_eq_zero_or_one m with h | h
  · have e : ((m : Int) % 2) = 0 := by omega
    rw [e, h]
    simp only [Int.mul_zero, Int.zero_emod, Nat.zero_ne_one, if_false]
    have := u32_xor_nat (m / 2) 0 (by omega) (by omega)
    simpa using this
  · have e : ((m : Int) % 2) = 1 := by omega
    rw [e, h]
    have := u32_xor_nat (m / 2) 2197175160 (by omega) (by omega)
    simpa using this

def Tab (A : Array Value) (k : Nat) : Prop := A.size = 256 ∧ ∀ i, i < 256 → A[i]? = some (.int .u32 (if i < k then ((tab i : Nat) : Int) else 0))
theorem tab_set {A : Array Value} {k : Nat} (h : Tab A k) (_hk : k < 256) : Tab (A.setIfInBounds k (.int .u32 ((tab k : Nat) : Int))) (k + 1) := by
  refine ⟨by simp [h.1], fun i hi => ?_⟩
  rw [Array.getElem?_setIfInBounds]
  by_cases e : k = i
  · subst e; simp [h.1, hi]
  · rw [if_neg e, h.2 i hi]
    by_cases h2 : i < k
    · simp [h2, Nat.lt_succ_of_lt h2]
    · have : ¬ i < k + 1 := by omega
      simp [h2, this]

set_option maxRecDepth 100000 in
theorem tab0 : Tab Try.zeroCells142 0 := by
  refine ⟨by kernel_rfl, fun i hi => ?_⟩
  have h : ∀ i : Fin 256, Try.zeroCells142[i.1]? = some (.int .u32 0) := by
    intro i
    have h2 : Try.zeroCells142 = Array.replicate 256 (.int .u32 0) := by kernel_rfl
    rw [h2]; simp
  simpa using h ⟨i, hi⟩

set_option maxRecDepth 100000 in
set_option maxHeartbeats 400000 in
theorem made_any (w : World) :
    Calls Try.prog 98 #[] w fun e w' => e = .returned (.pointer (some ⟨w.heap.size, 0, none⟩)) ∧ ∃ A, Tab A 256 ∧ w' = w.alloc (.cells A 142) := by
  go_enter Try.func98, Try.ntmps98
  go_wp2
  go_loopw [4] (fun i wr => ∃ k : Nat, k ≤ 256 ∧ i = .int .i64 k ∧ ∃ A, Tab A k ∧ wr = w.alloc (.cells A 142)) (fun i _ => 256 - (intOf i).toNat)
  case atStart => exact ⟨0, by omega, rfl, _, tab0, rfl⟩
  case round =>
    obtain ⟨k, hk, rfl, A, hA, hW⟩ := hrel
    by_cases hlt : k < 256
    · have hc : wr.cell? ⟨w.heap.size, k, none⟩ = some (.int .u32 0) := by rw [hW, World.cell?_alloc_new, hA.2 k hlt]; simp
      have hf : wr.frozen? ⟨w.heap.size, k, none⟩ = false := by rw [hW]; exact World.frozen?_alloc_new _ _ _ _
      have HW := Lib.hid hW
      have HA := Lib.hid hA
      clear hW hA
      go_wp2
      go_loop [3, 9] (fun x i => ∃ j : Nat, j ≤ 8 ∧ i = .int .i64 j ∧ x = .int .u32 ((iter j k : Nat) : Int)) (fun _ i => 8 - (intOf i).toNat)
      case atStart => exact ⟨0, by omega, rfl, rfl⟩
      case round =>
        obtain ⟨j, hj, rfl, rfl⟩ := hrel
        by_cases hj8 : j < 8
        · have hb : iter j k < 4294967296 := iter_lt (by omega) j
          obtain ⟨m, hm⟩ : ∃ m, m = iter j k := ⟨_, rfl⟩
          have hm' : iter (j + 1) k = stp m := by rw [hm]; rfl
          rw [← hm] at hb ⊢
          have Hm := Lib.hid hm'
          clear hm hm'
          go_wp2
          go_round
          case rel => exact ⟨j + 1, by omega, by go_num, by rw [Hm.out, ← u32_step m hb]⟩
          case measure => simp [intOf]; omega
        · obtain rfl : j = 8 := by omega
          obtain ⟨m, hm⟩ : ∃ m, m = iter 8 k := ⟨_, rfl⟩
          rw [← hm]
          have Hm := Lib.hid hm
          clear hm
          go_wp2
          go_roundw
          case rel => exact ⟨k + 1, by omega, by go_num, _, tab_set HA.out hlt, by rw [HW.out, Hm.out]; exact World.setCell_alloc_new ..⟩
          case measure => simp [intOf]; omega
    · obtain rfl : k = 256 := by omega
      go_wp2
      go_ret
      exact ⟨rfl, A, hA, rfl⟩
end Go.Proofs.Ytmeoiennniknlaa.Sums
